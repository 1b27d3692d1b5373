/-
  Lemmas for ProofHolds: Bn5, BnT, Bn6, Bn7, Bn8, BnW. Conditions: those of each lemma.
-/
import Derived.Deep.LoopGhost
import Derived.Test.YtklibcncmbofpaaGreatR05
import Derived.Test.YtklibcncmbofpaaGreatR15
set_option linter.all false
set_option maxHeartbeats 8000000
set_option maxRecDepth 10000
namespace Go.Proofs.YtklibcncmbofpaaGreat
open Go Go.RowKit
def IX(w:World)(p:Nat)(FF:List Nat)(A:NS)(st:Nat)(G:BG):Prop:=BnAt w p FF A st G/\Dk A G
theorem Sz{A:NS}{G:BG}(I:Dk A G)(ok:A.Ok){q:Int}{m:Nat}(hm:dL A q=some m):∃k:Nat,q=k/\1<=k/\bJ A q=true/\m<A.cs.length/\G.F.u m=-1/\(A.c m).i=k:=by
 have hq:0<q:=by
  apply Classical.byContradiction;intro h;rw[qc h]at hm;cases hm
 obtain⟨k,rfl⟩:∃k:Nat,q=k:=⟨q.toNat,ω⟩;have hf:=(iT hq).1 hm;have hh:bJ A (k:Int)=true:=by
  have:=iX ok ((ah A m).2 ⟨hf.1,by rw[hf.2.1];omega⟩);rw[π,hf.2.1]at this;exact this
 cases hR:G.R k with
 | nil=>rw[MN I ω hR]at hm;cases hm
 | cons x t=>
  obtain⟨m',_,h2,h3,h4,h5⟩:=TQ I (show 1<=k by omega) hR;rw[hm]at h2;cases h2;exact⟨k,rfl,ω,hh,h3,h4,h5⟩
def SS(A:NS)(q:Int)(G:BG):Nat:=EI A G q+(match dL A q with|some m=>yI A q.toNat m G|none=>0)
def P9(A:NS)(q:Int)(G:BG):BG:=match dL A q with|some m=>rC A q.toNat m G|none=>G
section
variable {w:World}{p:Nat}{FF:List Nat}{A:NS}{st:Nat}{G:BG}
theorem Ev(h:IX w p FF A st G)(q:Int) :
  Calls Tryz.prog 177 #[.pointer (some ⟨p,0,none⟩),.int .i64 q] w fun e w'=>e=.returned (.tuple #[.int .i64 (qh (dL A q)),.bool (dL A q).isSome])/\Goes FF w w' (fun Jl=>IX w' p Jl (uU A q) (bT st (SS A q G)) (P9 A q G)):=by
 obtain⟨⟨B,F,gr,cr,lo,S,vs,rfl,rfl,M,eF⟩,I⟩:=h;have km:=Gf M I q;have qz:∀y,y∈[B.c]->y∈B.blk F gr A.cs.length S vs:=fun y hy=>by
  simp at hy;subst hy;simp[BB.blk,M.cells.mem]
 have hst:=M.cells.pF;cases hm:dL A q with
 | none=>
  rw[hm]at km;simp only[qh,Option.isSome_none]at km⊢;have e1:SS A q G=EI A G q:=by unfold SS;rw[hm];rfl
  have e2:P9 A q G=G:=by unfold P9;rw[hm]
  have e3:uU A q=A:=by unfold uU;rw[hm]
  rw[e1,e2,e3];have HI:=χ (ψ I (ψ eF qz));clear M I hm e1 e2 e3 eF qz
  go_enter Tryz.func177,Tryz.ntmps177
  go_wp2_with ((go_at_call 181;(with_reducible refine(km).mono ?_));rintro e w1 ⟨rfl,hM1,hu1⟩)
  go_ret2;exact⟨rfl,Goes.stay ⟨⟨B,F,gr,cr,lo,S,vs,rfl,rfl,hM1,HI.out.2.1⟩,HI.out.1⟩ (hu1.mono HI.out.2.2)⟩
 | some m=>
  rw[hm]at km;simp only[qh,Option.isSome_some]at km⊢;obtain⟨k,rfl,hk1,hh,m1,m2,m3⟩:=Sz I M.cells.ok hm;have e1:SS A (k:Int) G=EI A G (k:Int)+yI A k m G:=by unfold SS;rw[hm];simp
  have e2:P9 A (k:Int) G=rC A k m G:=by unfold P9;rw[hm];simp
  have e3:uU A (k:Int)=bz A (m:Int):=by unfold uU;rw[hm]
  rw[e1,e2,e3];obtain⟨k',hk',_,hkv⟩:=M.hq hh;obtain rfl:k=k':=ω;have X:=I.x m1;have kt:=fun W (hM:iU W B F gr cr lo A (bT st (EI A G (k:Int))) S vs G.R)=>Oa hM eF X m1 m2 (by rw[m3];omega) m3 hkv;have T:=(Ll X M.cells.ok m1 m2 (by rw[m3];omega) m3).1;have HI:=χ (ψ T qz);clear M I hm e1 e2 e3 eF qz X T m1 m2 m3 hh hk'
  go_enter Tryz.func177,Tryz.ntmps177
  go_wp2_with (first
   | ((go_at_call 181;(with_reducible refine(km).mono ?_));rintro e w1 ⟨rfl,hM1,hu1⟩;(have kt1:=kt _ hM1);(have hs1:=hu1.size))
   | ((go_at_call 185;(with_reducible refine(kt1).mono ?_));rintro e w2 ⟨rfl,FF2,hK2,hu2,hf2⟩)
   | fail)
  go_ret2;rw[iZ]at hK2;refine⟨rfl,FF2,⟨hK2,HI.out.1⟩,(hu1.mono HI.out.2).trans hu2,fun y hy=>?_⟩;rcases hf2 y hy with h'|h'
  ·exact Or.inl h'
  ·exact Or.inr ω
theorem yF{B:BB}{F:List Nat}{gr n:Nat}{S:CS}{vs:List Value}:∀y,y∈F->y∈B.blk F gr n S vs:=fun y hy=>by simp[BB.blk,hy]
theorem WG{w:World}{B:BB}{F F':List Nat}{gr n:Nat}{S S':CS}{vs:List Value}{q:Nat}{vo:Value}(hF:∀y,y∈F'->y∈F)(hb:∀g,g∈S'.blk n->g∈S.blk n\/w.heap.size<=g)(hv:∀g,vo.ownBlock=some g->w.heap.size<=g) :
  ∀y,y∈B.blk F' gr n S' (vs.set q vo)->y∈B.blk F gr n S vs\/w.heap.size<=y:=fun y hy=>by
 simp only[BB.blk,ρ,τ]at hy⊢;rcases hy with e|e|e|e|e|e|e
 ·exact Or.inl (Or.inl e)
 ·exact Or.inl (Or.inr (Or.inl e))
 ·exact Or.inl (Or.inr (Or.inr (Or.inl e)))
 ·exact Or.inl (Or.inr (Or.inr (Or.inr (Or.inl e))))
 ·exact Or.inl (Or.inr (Or.inr (Or.inr (Or.inr (Or.inl (hF y e))))))
 ·rcases hb y e with h'|h'
  ·exact Or.inl (Or.inr (Or.inr (Or.inr (Or.inr (Or.inr (Or.inl h'))))))
  ·exact Or.inr h'
 ·obtain⟨k,hk,hk2⟩:=jK.1 e;rw[List.length_set]at hk;rw[uC]at hk2
  by_cases ek:k=q/\q<vs.length
  ·rw[if_pos ek]at hk2;exact Or.inr (hv y hk2)
  ·rw[if_neg ek]at hk2;exact Or.inl (Or.inr (Or.inr (Or.inr (Or.inr (Or.inr (Or.inr (jK.2 ⟨k,hk,hk2⟩)))))))
theorem acw{w:World}{B:BB}{F:List Nat}{gr cr lo:Nat}{S:CS}{vs:List Value}{R:Nat->List Int}(M:iU w B F gr cr lo A st S vs R):∀y,y∈B.c::B.ba::gr::S.blk A.cs.length->y∈B.blk F gr A.cs.length S vs:=fun y hy=>by
 simp only[BB.blk,ρ,τ]at hy⊢;rcases hy with e|e|e|e
 ·exact Or.inr (Or.inr (Or.inr (Or.inr (Or.inl (by rw[e];exact M.cells.mem)))))
 ·exact Or.inr (Or.inr (Or.inl e))
 ·exact Or.inr (Or.inr (Or.inr (Or.inl e)))
 ·exact Or.inr (Or.inr (Or.inr (Or.inr (Or.inr (Or.inl e)))))
theorem GK(h:IX w p FF A st G)(q x:Nat)(k s:Int)(hk:-9223372036854775808<=k/\k<=9223372036854775807/\0<=s/\s<=18446744073709551615)(hB:oG A q x=true) :
  Calls Tryz.prog 178 #[.pointer (some ⟨p,0,none⟩),.int .i64 (q:Int),.int .i64 (x:Int),.agg #[.int .i64 k,.int .u64 s]] w fun e w'=>e=.returned (.bool true)/\
   Goes FF w w' (fun Jl=>IX w' p Jl (aK A q x k s) (bT st (UM (aK A q x k s) q x G)) (Qo (aK A q x k s) q x G)):=by
 obtain⟨⟨B,F,gr,cr,lo,S,vs,rfl,rfl,M,eF⟩,I⟩:=h;have ok:=M.cells.ok;obtain⟨I2,_,t2,t3,t4,hcs⟩:=Y3 (h:=q) (x:=x) k s I ok hB;have lT:(aK A q x k s).hs.length=A.hs.length:=by unfold aK;split;rfl;rfl
 have QW:=((fB _ _ _).1 hB).1;obtain⟨q',e,hq1,hqv⟩:=M.hq QW;obtain rfl:q=q':=ω;have u1:aa [] w (w.alloc (.cells #[.int .i64 k,.int .u64 s] 129)):=(aa.refl _ _).alloc _;have kp:=fun W (hW:aa [] (w.alloc (.cells #[.int .i64 k,.int .u64 s] 129)) W)=>nW (M.cells.au (u1.trans hW)) q x k s hk hB;have h0:=M.h0;have uW:B.n0∉F:=M.d1.1;have hsz:w.heap.size∉F:=fun hm=>by have:=M.cells.lt _ hm;omega
 have r0:∀W,aa F (w.alloc (.cells #[.int .i64 k,.int .u64 s] 129)) W->W.cell? ⟨B.n0,0,none⟩=some (.pointer (some ⟨B.c,0,none⟩)):=fun W hW=>hW.kept (u1.was h0) uW;have r1:∀W,aa F (w.alloc (.cells #[.int .i64 k,.int .u64 s] 129)) W->W.cell? ⟨w.heap.size,0,none⟩=some (.int .i64 k):=fun W h=>h.kept σ hsz;have r2:∀W,aa F (w.alloc (.cells #[.int .i64 k,.int .u64 s] 129)) W->W.cell? ⟨w.heap.size,1,none⟩=some (.int .u64 s):=fun W h=>h.kept σ hsz;have hrow:=I.rh.row q
 have ka:=fun(W:World) (hM:iU W B F gr cr lo (aK A q x k s) st S vs G.R) (vl:Value) (hvl:gI W (B.c::B.ba::S.blk (aK A q x k s).cs.length) vl [(x:Int)])=>Ib hM (by rw[hcs,eF];exact I.fh.f) q hqv hvl (by rw[hcs,eF];exact hrow) (by rw[hcs,eF];exact t2) t3 t4;have HM:=χ M;have HI:=χ (ψ I2 (ψ eF (ψ hcs lT)));clear M I ok I2 t2 t3 t4 hcs lT eF hrow h0 hB;generalize hA':aK A q x k s=A' at *
 go_enter Tryz.func178,Tryz.ntmps178
 go_wp2
 go_region_held3 (aa F (w.alloc (.cells #[.int .i64 k,.int .u64 s] 129))) (exact ν)
  (first
   | ((go_at_call 154;(with_reducible refine(kp _ β).mono ?_));rintro e w1 ⟨rfl,jr,hu1⟩;(have hu2:aa F (w.alloc (.cells #[.int .i64 k,.int .u64 s] 129)) w1:=ν)))
 have uF:aa F w w1:=(u1.mono σ).trans hu2;have hM1:=HM.out.cB uF jr (fun y hy=>Or.inl hy) HI.out.2.2.1 HI.out.2.2.2;have hsz1:=uF.size;have hlt1:∀y,y∈B.c::B.ba::S.blk A'.cs.length->y<w1.heap.size:=fun y hy=>by
  simp only[ρ]at hy;rcases hy with e|e|e
  ·subst e;exact hM1.cells.lt _ hM1.cells.mem
  ·subst e;exact hM1.jm.row.lt
  ·exact(hM1.jm.nX e).2
 have ka1:=fun(W:World) (hW:aa [] w1 W) (vl:Value)=>ka W (hM1.au hW) vl;have HL:=χ hlt1;clear kp r0 r1 r2 hM1 hlt1 ka
 go_wp2_with (first
  | ((go_at_call 186;(with_reducible refine(ka1 _ β _ ((bu.lit w1 0 (x:Int) (Nat.zero_le _)).sl (fun g hg hm=>by have:=HL.out g hm;simp[Value.ownBlock]at hg;omega))).mono ?_));rintro e w2 ⟨S2,vo,rfl,hS2,hM2,hu3,hb2,hx2⟩)
  | fail)
 go_ret;have eF:=HI.out.2.1;have hcs:=HI.out.2.2.1;have uw:aa (B.blk F gr A.cs.length S vs) w w2:=by
  refine((uF.mono yF).alloc _).trans (hu3.mono (fun y hy=>?_));rw[hcs]at hy;exact acw HM.out y hy
 refine⟨rfl,B.blk F gr A'.cs.length S2 (vs.set q vo),⟨⟨B,F,gr,cr,lo,S2,_,rfl,rfl,by unfold UM Qo yQ;rw[←eF];exact hM2,by rw[hS2,eF];rfl⟩,HI.out.1⟩,uw,fun y hy=>?_⟩;rw[hcs]at hy hb2;exact WG (w:=w) (fun _ h=>h) (fun g hg=>(hb2 g hg).imp id (fun h=>by simp at h;omega)) (fun g hg=>by have:=hx2 g hg;simp at this;omega) y hy
end
end Go.Proofs.YtklibcncmbofpaaGreat
namespace Go.Proofs.YtklibcncmbofpaaGreat
def iV(hp:Nat->Bool)(ct x:Nat):Nat->BG->BG×Nat
 | 0,G=>(G,0)
 | f+1,G=>if G.F.u x=-1 then (G,0)else if hp (G.F.u x).toNat then ((iV hp ct x f (rG G x (G.F.u x).toNat)).1,(iV hp ct x f (rG G x (G.F.u x).toNat)).2+ct)else (G,ct)
theorem vN{hp:Nat->Bool}{ct x f:Nat}{G:BG}(h:G.F.u x=-1):iV hp ct x f G=(G,0):=by
 cases f with
 | zero=>rfl
 | succ f=>rw[iV,if_pos h]
theorem Bi{hp:Nat->Bool}{ct x f p:Nat}{G:BG}(h:G.F.u x=p)(hh:hp p=false):iV hp ct x (f+1) G=(G,ct):=by
 rw[iV,if_neg ω,h,π,hh];rfl
theorem xZ{hp:Nat->Bool}{ct x f p:Nat}{G:BG}(h:G.F.u x=p)(hh:hp p=true):iV hp ct x (f+1) G=((iV hp ct x f (rG G x p)).1,(iV hp ct x f (rG G x p)).2+ct):=by
 rw[iV,if_neg ω,h,π,hh];rfl
section
variable {A:NS}{G:BG}{x:Nat}{hp:Nat->Bool}{ct:Nat}
theorem C9{p:Nat}(B:Fx A G x)(hx:x<A.cs.length)(hu:G.F.u x=p):(G.F.k x).length<((rG G x p).F.k x).length:=by
 have:=B.fh.f.OV hx hu
 show _<((rZ G.F x p (G.F.u p)).k x).length
 rw[uJ,if_pos rfl];exact this
theorem Hg(hx:x<A.cs.length):∀ (f:Nat) {G:BG},Fx A G x->A.cs.length<=f+(G.F.k x).length->Fx A (iV hp ct x f G).1 x/\((iV hp ct x f G).1.F.u x=-1\/∃p:Nat,(iV hp ct x f G).1.F.u x=p/\hp p=false)
 | 0,G,B,hf=>by have:=B.fh.f.len hx;omega
 | f+1,G,B,hf=>by
  rcases B.fh.f.up x hx with h1|⟨p,hp1,h1,h2⟩
  ·rw[vN h1];exact⟨B,Or.inl h1⟩
  ·cases hh:hp p with
   | false=>rw[Bi h1 hh];exact⟨B,Or.inr ⟨p,h1,hh⟩⟩
   | true=>
    rw[xZ h1 hh];have:=C9 B hx h1;exact Hg hx f (AB B hx h1) ω
theorem AY(hx:x<A.cs.length)(hl:∀p:Nat,p<A.cs.length->hp p=true->bZ A x p):∀ (f:Nat) {G:BG},Fx A G x->(∀c:Nat,c<A.cs.length->G.F.u c=x->bZ A x c)->∀c:Nat,c<A.cs.length->(iV hp ct x f G).1.F.u c=x->bZ A x c
 | 0,G,B,hk=>hk
 | f+1,G,B,hk=>by
  rcases B.fh.f.up x hx with h1|⟨p,hp1,h1,h2⟩
  ·rw[vN h1];exact hk
  ·cases hh:hp p with
   | false=>rw[Bi h1 hh];exact hk
   | true=>
    rw[xZ h1 hh];exact AY hx hl f (AB B hx h1) (Og B hx h1 hk (hl p hp1 hh))
theorem NA{p h:Nat}(B:Fx A G x)(hx:x<A.cs.length)(hu:G.F.u x=p)(hh:(A.c x).i=h):(rG G x p).R=if G.F.u p=-1 then dA G.R h (setAt (G.R h) p x)else G.R:=by
 obtain⟨hp1,hm⟩:=B.fh.f.above hx hu;have bN:(A.c x).i=(A.c p).i/\0<(A.c x).i:=B.fh.home x p hx hu
 funext k
 show(G.R k).map (Ki x p (G.F.u p))=_
 by_cases e:G.F.u p=-1
 ·rw[if_pos e];unfold dA
  by_cases ek:k=h
  ·rw[if_pos ek,ek];have hpR:(p:Int)∈G.R h:=(B.rh.mem h p).2 ⟨ω,hp1,e,by show(A.c p).i=_;omega⟩;rw[←zx (B.rh.row h).nodup p x hpR];unfold OL Ki
   exact List.map_congr_left (fun z _=>by
    by_cases ez:z=p
    ·rw[if_pos ⟨ez,e⟩,if_pos ez]
    ·rw[if_neg (fun h=>ez h.1),if_neg ez])
  ·rw[if_neg ek];have:∀z,z∈G.R k->Ki x p (G.F.u p) z=z:=fun z hz=>by
    unfold Ki;rw[if_neg (fun h=>?_)];rw[h.1]at hz;have h4:(A.c p).i=(k:Int):=((B.rh.mem k p).1 hz).2.2.2;omega
   rw[List.map_congr_left this];simp
 ·rw[if_neg e];have:∀z,z∈G.R k->Ki x p (G.F.u p) z=z:=fun z hz=>by
   unfold Ki;rw[if_neg (fun h=>e h.2)]
  rw[List.map_congr_left this];simp
end
end Go.Proofs.YtklibcncmbofpaaGreat
namespace Go.Proofs.YtklibcncmbofpaaGreat
open Go Go.RowKit
theorem bu.set{w:World}{base g off n cap:Nat}{xs:List Int}(h:bu w base (.slice (some ⟨g,off,none⟩) n cap) xs)(i:Nat)(hi:i<xs.length)(y:Int):bu (w.setCell ⟨g,off+i,none⟩ (.int .i64 y)) base (.slice (some ⟨g,off,none⟩) n cap) (xs.set i y):=by
 rcases h with⟨e,_⟩|⟨g',off',cap',cur,e,hb,hg,h1,h2,h3,h4⟩
 ·cases e
 ·cases e;refine Or.inr ⟨g,off,cap,cur.setIfInBounds (off+i) (.int .i64 y),by rw[List.length_set],hb,?_,by rw[List.length_set];exact h1,h2,ζ,fun j u hj=>?_⟩
  ·simp[World.setCell,Array.getElem?_modify,hg]
  ·have hjl:j<xs.length:=by have:=(List.getElem?_eq_some_iff.1 hj).1;simpa using this
   rw[Array.getElem?_setIfInBounds]
   by_cases e:i=j
   ·subst e;rw[List.getElem?_set_self hi]at hj;cases hj;rw[if_pos rfl,if_pos ω]
   ·rw[if_neg ω];rw[List.getElem?_set_ne e]at hj;exact h4 j u hj
theorem bu.free{w:World}{base:Nat}{v:Value}{xs:List Int}(h:bu w base v xs){g:Nat}(hg:v.ownBlock=some g)(j:Nat):w.frozen? ⟨g,j,none⟩=false:=by
 rcases h with⟨rfl,_⟩|⟨g',off',cap',cur,rfl,hb,hh,h1,h2,h3,h4⟩
 ·cases hg
 ·simp[Value.ownBlock]at hg;subst hg;simp[World.frozen?,hh]
theorem N8{n:Nat}(S:CS){x p:Nat}(above:Int)(hx:x<n)(hp:p<n):∀g,g∈(iw S x p above).blk n->g∈S.blk n:=fun g hg=>by
 obtain⟨y,hy,e⟩:=(CS.jY _ n g).1 hg;have e:(if y=x then S.v p else if y=p then S.v x else S.v y).ownBlock=some g:=e;rw[CS.jY]
 split at e
 ·exact⟨p,hp,e⟩
 ·split at e
  ·exact⟨x,hx,e⟩
  ·exact⟨y,hy,e⟩
section
variable {w:World}{B:BB}{F:List Nat}{gr cr lo:Nat}{A:NS}{st:Nat}{S:CS}{vs:List Value}{R:Nat->List Int}
theorem iU.setX{w1:World}(h:iU w B F gr cr lo A st S vs R)(q:Nat)(hq:q<vs.length)(hu1:aa (vs.getD q undef).ownBlock.toList w w1)(X:List Int)(hv:bu w1 0 (vs.getD q undef) X):iU w1 B F gr cr lo A st S vs (dA R q X):=by
 have hK:∀g,g∈(vs.getD q undef).ownBlock.toList->(vs.getD q undef).ownBlock=some g:=fun g hg=>by simpa using hg
 have kk:∀g,g∈(vs.getD q undef).ownBlock.toList->g≠B.n0/\g≠B.bt/\g≠B.ba/\g≠gr/\g∉F/\g∉S.blk A.cs.length:=fun g hg=>h.d4 q g hq (hK g hg)
 refine⟨h.head.upd hu1 (fun hm=>(kk _ hm).1 rfl),h.cells.upd hu1 (fun x hx=>(kk x hx).2.2.2.2.1),
  h.jm.upd hu1 (fun hm=>(kk _ hm).2.1 rfl) (fun hm=>(kk _ hm).2.2.1 rfl) (fun g hg hm=>(kk g hm).2.2.2.2.2 hg),
  aC h.rows hu1 (fun g hg hm=>by simp[Value.ownBlock]at hg;subst hg;exact(kk _ hm).2.2.2.1 rfl),h.len,fun k hk=>?_,h.d1,h.d2,h.d3,h.d4,h.d5⟩
 unfold dA
 by_cases ek:k=q
 ·rw[if_pos ek,ek];exact hv
 ·rw[if_neg ek];exact(h.each k hk).upd hu1 (fun g hg2 hm=>h.d5 k q g hk hq ek hg2 (hK g hm))
end
structure XV(w:World)(K:List Nat)(B:BB)(F:List Nat)(A:NS)(ct:Nat)(hp:Nat->Bool)(f:FuncId)(rR:Array Value):Prop where
 enters:Enters f
 calls:∀ (W:World) (st above:Nat),aa K w W->W.cell? ⟨B.n0,0,none⟩=some (.pointer (some ⟨B.c,0,none⟩))->B.n0≠B.c->aF W B.c F A st->bS A (above:Int)=true->
  Calls Tryz.prog f (#[.int .i64 (above:Int)]++rR) W fun e w'=>e=.returned (.bool (hp above))/\aF w' B.c F A (bT st ct)/\aa [B.c] W w'
section
variable {w:World}{B:BB}{F:List Nat}{gr cr lo:Nat}{A:NS}{st:Nat}{S:CS}{vs:List Value}{G:BG}
theorem OC(M:iU w B F gr cr lo A st S vs G.R)(eF:S.f=G.F){x h ct:Nat}{hp:Nat->Bool}{f:FuncId}{rR:Array Value}(X:Fx A G x)(hx:x<A.cs.length)(hin:0<(A.c x).i)(hh:(A.c x).i=h)(hq:h<vs.length)(H:XV w (B.blk F gr A.cs.length S vs) B F A ct hp f rR) :
  Calls Tryz.prog 183 #[.pointer (some ⟨B.n0,0,none⟩),.int .i64 (h:Int),.int .i64 (x:Int),.func (Fn.func f) #[] rR] w fun e w'=>e=.returned (.tuple #[])/\
   ∃S',iU w' B F gr cr lo A (bT st (iV hp ct x A.cs.length G).2) S' vs (iV hp ct x A.cs.length G).1.R/\S'.f=(iV hp ct x A.cs.length G).1.F/\aa (B.blk F gr A.cs.length S vs) w w'/\∀g,g∈S'.blk A.cs.length->g∈S.blk A.cs.length:=by
 have ok:=M.cells.ok;have hn:=ok.c1;have hz:=gK M.cells.pF;have hcl:=H.calls;have hen:=H.enters;unfold Enters at hen;have HM:=χ M;have HX:=χ (ψ X eF);have HC:=χ hcl;have hvl:=M.ZY;clear M X eF hcl ok H
 go_enter Tryz.func183,Tryz.ntmps183
 go_wp2
 go_loopg [8,9,10,11] A.cs.length (fun fu _ _ _ _ wr=>∃ (c:Nat) (G':BG) (S':CS),iU wr B F gr cr lo A (bT st c) S' vs G'.R/\S'.f=G'.F/\Fx A G' x/\(∀g,g∈S'.blk A.cs.length->g∈S.blk A.cs.length)/\aa (B.blk F gr A.cs.length S vs) w wr/\A.cs.length<=fu+(G'.F.k x).length/\(iV hp ct x fu G').1=(iV hp ct x A.cs.length G).1/\(iV hp ct x fu G').2+c=(iV hp ct x A.cs.length G).2)
 case atStart=>exact⟨0,G,S,by rw[hz];exact HM.out,HX.out.2,HX.out.1,fun g hg=>hg,aa.refl _ _,ω,rfl,rfl⟩
 case round=>
  rename Nat=>fu;obtain⟨c,G',S',hM,eF,X,hSb,hu,hfu,hl1,hl2⟩:=hrel;rename World=>wr;have hlen:=X.fh.f.len hx;obtain⟨fv,rfl⟩:∃fv,fu=fv+1:=⟨fu-1,ω⟩;have ku:=wh B.bt B.ba lo A.cs.length S' (x:Int) wr hM.jm;have h1:=hM.h1;have eux:S'.u x=G'.F.u x:=by rw[←eF];rfl
  have kb:∀y,y∈B.blk F gr A.cs.length S' vs->y∈B.blk F gr A.cs.length S vs:=fun y hy=>by
   simp only[BB.blk,ρ,τ]at hy⊢;rcases hy with e|e|e|e|e|e|e
   ·exact Or.inl e
   ·exact Or.inr (Or.inl e)
   ·exact Or.inr (Or.inr (Or.inl e))
   ·exact Or.inr (Or.inr (Or.inr (Or.inl e)))
   ·exact Or.inr (Or.inr (Or.inr (Or.inr (Or.inl e))))
   ·exact Or.inr (Or.inr (Or.inr (Or.inr (Or.inr (Or.inl (hSb y e))))))
   ·exact Or.inr (Or.inr (Or.inr (Or.inr (Or.inr (Or.inr e)))))
  have HR:=χ (ψ hM (ψ eF (ψ X (ψ hSb (ψ hu (ψ hl1 (ψ hl2 kb)))))));rcases X.fh.f.up x hx with e1|⟨p,hp1,e1,e2⟩
  ·have eu:I7 A.cs.length S' (x:Int)=none:=by unfold I7;rw[if_pos ω,π,eux,if_pos e1]
   rw[eu]at ku;have E1:=χ e1;clear hM X hl1 hl2 eu e1 eux kb hSb hfu
   go_wp2_with ((go_at_call 188;(with_reducible refine(ku).mono ?_);rintro e w9 ⟨rfl,aJ⟩;rw[aJ];clear aJ w9))
   refine bodyPost_ret (v:=.tuple #[]) (by simp[results,Tryz.results183,go_sem]) rfl ?_;obtain⟨hM,eF,X,hSb,hu,hl1,hl2,kb⟩:=HR.out;rw[vN E1.out]at hl1 hl2;refine⟨rfl,S',?_,by rw[←hl1];exact eF,hu,hSb⟩;rw[←hl1,←hl2,show(((G',0):BG×Nat)).2+c=c by simp];exact hM
  ·have eu:I7 A.cs.length S' (x:Int)=some (p:Int):=by unfold I7;rw[if_pos ω,π,eux,e1,if_neg ω]
   rw[eu]at ku;simp only[ov,ob,Option.getD_some,Option.isSome_some]at ku;have bN:(A.c x).i=(A.c p).i:=(X.fh.home x p hx e1).1;have hip:bS A (p:Int)=true:=(ah _ _).2 ⟨hp1,ω⟩;have kh:=HC.out wr (bT st c) p hu hM.h0 hM.cn.1 hM.cells hip;rw[iZ]at kh;cases Zb:hp p with
   | false=>
    rw[Zb]at kh;have E1:=χ (ψ e1 Zb);clear hM X hl1 hl2 eu e1 eux kb hSb hfu Zb
    go_wp2_with (first
     | (go_at_call 188;(with_reducible refine(ku).mono ?_);rintro e w9 ⟨rfl,aJ⟩;rw[aJ];clear aJ w9)
     | ((with_reducible refine(kh).mono ?_);rintro e w2 ⟨rfl,hC2,hu2⟩))
    refine bodyPost_ret (v:=.tuple #[]) (by simp[results,Tryz.results183,go_sem]) rfl ?_;obtain⟨hM,eF,X,hSb,hu,hl1,hl2,kb⟩:=HR.out;rw[Bi E1.out.1 E1.out.2]at hl1 hl2;refine⟨rfl,S',?_,by rw[←hl1];exact eF,hu.trans (hu2.mono (fun y hy=>by simp at hy;subst hy;exact yF _ HM.out.cells.mem)),hSb⟩;rw[←hl1,←hl2,show(((G',ct):BG×Nat)).2+c=c+ct by simp;omega];exact hM.setSt hu2 hC2
   | true=>
    rw[Zb]at kh;have okL:=Mq (S:=S') (by rw[eF];exact X.fh.f) hx hp1 (by rw[eux];exact e1) (show(x:Int)∈S'.f.k p by rw[eF];exact e2);have eup:S'.u p=G'.F.u p:=by rw[←eF];rfl
    have hfL:=AB X hx e1;have hmL:=C9 X hx e1;have hrR:=NA X hx e1 hh;have E1:=χ (ψ e1 (ψ Zb (ψ hfL (ψ hmL (ψ hrR (ψ hfu eup))))))
    have FIN:=χ (show ∀ (W w3:World),iU W B F gr cr lo A (bT st (c+ct)) S' vs (rG G' x p).R->aa (B.blk F gr A.cs.length S vs) w W->aY w3 B.bt B.ba lo A.cs.length (iw S' x p (S'.u p))->aa (B.ba::S'.blk A.cs.length) W w3->
      ∃ (c2:Nat) (G2:BG) (S2:CS),iU w3 B F gr cr lo A (bT st c2) S2 vs G2.R/\S2.f=G2.F/\Fx A G2 x/\(∀g,g∈S2.blk A.cs.length->g∈S.blk A.cs.length)/\aa (B.blk F gr A.cs.length S vs) w w3/\A.cs.length<=fv+(G2.F.k x).length/\(iV hp ct x fv G2).1=(iV hp ct x A.cs.length G).1/\(iV hp ct x fv G2).2+c2=(iV hp ct x A.cs.length G).2 from fun W w3 mi UL XT hu3=>by
     have hb3:=N8 S' (S'.u p) hx hp1
     have jR:=mi.jW (hu3.mono (fun y hy=>List.mem_cons_of_mem _ hy)) (mi.cells.upd hu3 (fun y hy hm=>by
      rcases ρ.1 hy with e|e
      ·subst e;exact mi.d1.2.2.1 hm
      ·exact(mi.d3 y e).2.2 hm)) XT (fun g hg=>Or.inl (hb3 g hg))
     rw[xZ e1 Zb]at hl1 hl2;refine⟨c+ct,rG G' x p,iw S' x p (S'.u p),jR,by rw[Z9,eF,eup];rfl,hfL,fun g hg=>hSb g (hb3 g hg),UL.trans (hu3.mono (fun y hy=>?_)),ω,hl1,by simp only at hl2;omega⟩;rcases ρ.1 hy with e|e
     ·subst e;simp[BB.blk]
     ·have:=hSb y e;simp only[BB.blk,ρ,τ]
      exact Or.inr (Or.inr (Or.inr (Or.inr (Or.inr (Or.inl this))))))
    have kM:=χ (show ∀w2,aF w2 B.c F A (bT st (c+ct))->aa [B.c] wr w2->iU w2 B F gr cr lo A (bT st (c+ct)) S' vs G'.R/\aa (B.blk F gr A.cs.length S vs) w w2 from fun w2 hC2 hu2=>⟨hM.setSt hu2 hC2,hu.trans (hu2.mono (fun y hy=>by simp at hy;subst hy;exact yF _ HM.out.cells.mem))⟩);have hup:=X.fh.f.up p hp1;have hpR:G'.F.u p=-1->(p:Int)∈G'.R h:=fun e=>(X.rh.mem h p).2 ⟨ω,hp1,e,by show(A.c p).i=_;omega⟩;have hnd:=(X.rh.row h).nodup;clear hM X hl1 hl2 eu e1 eux kb hSb hfu Zb hfL hmL hrR e2 hu;rcases hup with e3|⟨q,hq1,e3,_⟩
    ·have eu2:I7 A.cs.length S' (p:Int)=none:=by unfold I7;rw[if_pos ω,π,eup,if_pos e3]
     have hpm:=hpR e3;obtain⟨i,hi,hidx,hix⟩:=wu (G'.R h) (p:Int) hpm;have E3:=χ (ψ e3 (ψ hpm hnd));clear e3 hpR eup hpm hnd
     go_wp2_with (first
      | (go_at_call 188;(with_reducible refine(ku).mono ?_);rintro e w9 ⟨rfl,aJ⟩;rw[aJ];clear aJ w9)
      | ((with_reducible refine(kh).mono ?_);rintro e w2 ⟨rfl,hC2,hu2⟩;obtain⟨hM2,hu3⟩:=kM.out w2 hC2 hu2;(have h2:=hM2.h1);(have Xw:=wh B.bt B.ba lo A.cs.length S' (p:Int) w2 hM2.jm);rw[eu2]at Xw;simp only[ov,ob,Option.getD_none,Option.isSome_none]at Xw;(have nR:=χ hM2);clear hM2)
      | (go_at_call 188;(with_reducible refine(Xw).mono ?_);rintro e w9 ⟨rfl,aJ⟩;rw[aJ];clear aJ w9))
     have hsl:gI w2 [] (vs.getD h undef) (G'.R h):=(nR.out.each h hq).sl (fun g _=>σ);have kix:=fun W (hW:aa [] w2 W)=>FP W [] (vs.getD h undef) (G'.R h) (p:Int) (hsl.upd hW σ);rw[hidx]at kix;obtain⟨a0,cap,hv,hlc,hcp,hcs⟩:=(nR.out.each h hq).shape;obtain⟨g,off,rfl,hci⟩:=hcs i (p:Int) hix;have hfi:w2.frozen? ⟨g,off+i,none⟩=false:=(nR.out.each h hq).free (by rw[hv];rfl) _;have hR2:=nR.out.h2;have hrc:=nR.out.WM hq;rw[hv]at kix hrc;have hib0:(0:Int)<=(h:Int):=ω;have BP:(h:Int)<(vs.length:Int):=ω;have Hy:(0:Int)<=(i:Int):=ω;have hib3:(i:Int)<((G'.R h).length:Int):=ω
     have hrl:(G'.R h).length<=9223372036854775807:=ω
     have hfin:=χ (show iU (w2.setCell ⟨g,off+i,none⟩ (.int .i64 (x:Int))).drew B F gr cr lo A (bT st (c+ct)) S' vs (dA G'.R h (setAt (G'.R h) (p:Int) (x:Int)))/\aa (B.blk F gr A.cs.length S vs) w (w2.setCell ⟨g,off+i,none⟩ (.int .i64 (x:Int))).drew from by
      have u1:aa (vs.getD h undef).ownBlock.toList w2 (w2.setCell ⟨g,off+i,none⟩ (.int .i64 (x:Int))).drew:=by
       rw[hv];exact((aa.refl _ _).setCell (Or.inl (by simp[Value.ownBlock])) _).drew
      have o1:bu (w2.setCell ⟨g,off+i,none⟩ (.int .i64 (x:Int))).drew 0 (vs.getD h undef) (setAt (G'.R h) (p:Int) (x:Int)):=by
       have:=nR.out.each h hq;rw[hv]at this⊢;have o2:=this.set i hi (x:Int);unfold setAt;rw[hidx,π];exact o2.upd ((aa.refl [] _).drew) σ
      refine⟨nR.out.setX h hq u1 _ o1,hu3.trans (u1.mono (fun y hy=>?_))⟩;simp only[BB.blk,ρ,τ]
      exact Or.inr (Or.inr (Or.inr (Or.inr (Or.inr (Or.inr (jK.2 ⟨h,hq,by simpa using hy⟩)))))))
     clear hi hidx hix hcs hv hsl;generalize hrlq:(G'.R h).length=rl at *
     go_cut [55] (fun s55 wx=>iU wx B F gr cr lo A (bT st (c+ct)) S' vs (dA G'.R h (setAt (G'.R h) (p:Int) (x:Int)))/\aa (B.blk F gr A.cs.length S vs) w wx)
     case first=>
      go_region_law
       (first
        | (go_simp;go_at_call 189;(with_reducible refine(kix _ β).mono ?_);rintro e w9 ⟨rfl,aJ⟩;rw[aJ];clear aJ w9))
      all_goals
       go_wp2
       go_meet
       exact hfin.out
     case rest=>
      obtain⟨jR,gX⟩:=hcut;have h3:=jR.h1;have kl:=H8 B.bt B.ba lo A.cs.length S' x p (S'.u p) wc jR.jm okL;have Kh:=χ jR;clear jR hfin ku kh Xw kix hR2 hrc hci hfi
      go_wp2_with ((go_at_call 190;(with_reducible refine(kl).mono ?_));rintro e w3 ⟨rfl,XT,bW⟩)
      go_roundg fv
      case measure=>omega
      case rel=>
       have hR2:=E1.out.2.2.2.2.1;rw[E3.out.1,if_pos rfl]at hR2;exact FIN.out wc w3 (by rw[hR2];exact Kh.out) gX XT bW
    ·have eu2:I7 A.cs.length S' (p:Int)=some (q:Int):=by unfold I7;rw[if_pos ω,π,eup,e3,if_neg ω]
     have E3:=χ e3;clear e3 hpR eup
     go_wp2_with (first
      | (go_at_call 188;(with_reducible refine(ku).mono ?_);rintro e w9 ⟨rfl,aJ⟩;rw[aJ];clear aJ w9)
      | ((with_reducible refine(kh).mono ?_);rintro e w2 ⟨rfl,hC2,hu2⟩;obtain⟨hM2,hu3⟩:=kM.out w2 hC2 hu2;(have h2:=hM2.h1);(have Xw:=wh B.bt B.ba lo A.cs.length S' (p:Int) w2 hM2.jm);rw[eu2]at Xw;simp only[ov,ob,Option.getD_some,Option.isSome_some]at Xw;(have kl:=H8 B.bt B.ba lo A.cs.length S' x p (S'.u p) w2 hM2.jm okL);(have nR:=χ hM2);clear hM2)
      | (go_at_call 188;(with_reducible refine(Xw).mono ?_);rintro e w9 ⟨rfl,aJ⟩;rw[aJ];clear aJ w9)
      | ((go_at_call 190;(with_reducible refine(kl).mono ?_));rintro e w3 ⟨rfl,XT,gX⟩))
     go_roundg fv
     case measure=>omega
     case rel=>
      have hR2:=E1.out.2.2.2.2.1;rw[E3.out,if_neg ω]at hR2;exact FIN.out w2 w3 (by rw[hR2];exact nR.out) hu3 XT gX
end
theorem PK(W:World)(n0 c b3 b4:Nat)(F:List Nat)(A:NS)(st x y:Nat)(h3:W.cell? ⟨b3,0,none⟩=some (.pointer (some ⟨n0,0,none⟩)))(h4:W.cell? ⟨b4,0,none⟩=some (.int .i64 (x:Int)))(h0:W.cell? ⟨n0,0,none⟩=some (.pointer (some ⟨c,0,none⟩)))
  (hC:aF W c F A st) (hx:bS A (x:Int)=true) (hy:bS A (y:Int)=true) (e3:b3≠c) (e4:b4≠c) (e0:n0≠c) :
  Calls Tryz.prog 184 #[.int .i64 (y:Int),.pointer (some ⟨b3,0,none⟩),.pointer (some ⟨b4,0,none⟩)] W fun e w'=>e=.returned (.bool (decide (bZ A x y)))/\aF w' c F A (bT st 1)/\aa [c] W w':=by
 have ka:=fun W' (hW:aa [] W W')=>fA (hC.au hW) x y hx hy;have r3:∀W',aa [c] W W'->W'.cell? ⟨b3,0,none⟩=some (.pointer (some ⟨n0,0,none⟩)):=fun W' hW=>hW.kept h3 (by simpa using e3);have r4:∀W',aa [c] W W'->W'.cell? ⟨b4,0,none⟩=some (.int .i64 (x:Int)):=fun W' hW=>hW.kept h4 (by simpa using e4);have r0:∀W',aa [c] W W'->W'.cell? ⟨n0,0,none⟩=some (.pointer (some ⟨c,0,none⟩)):=fun W' hW=>hW.kept h0 (by simpa using e0);clear hC hx hy h3 h4 h0;generalize decide (bZ A x y)=b at *
 go_enter Tryz.func184,Tryz.ntmps184
 go_wp2
 go_region_held3 (aa [c] W) (exact ν)
  (first
   | ((go_at_call 174;(with_reducible refine(ka _ β).mono ?_));rintro e w1 ⟨rfl,jr,hu1⟩;(have hu2:aa [c] W w1:=aa.trans ν hu1)))
 go_wp2;go_ret;exact⟨rfl,jr.au β,ν⟩
theorem J5(w:World)(K:List Nat)(B:BB)(F:List Nat)(A:NS)(b3 b4 x:Nat)(h3:w.cell? ⟨b3,0,none⟩=some (.pointer (some ⟨B.n0,0,none⟩)))(h4:w.cell? ⟨b4,0,none⟩=some (.int .i64 (x:Int)))(hx:bS A (x:Int)=true)(k3:b3∉K)(k4:b4∉K)(hc:B.c∈K) :
  XV w K B F A 1 (fun y=>decide (bZ A x y)) 184 #[.pointer (some ⟨b3,0,none⟩),.pointer (some ⟨b4,0,none⟩)]:=by
 refine⟨fun _ _=>by kernel_rfl,fun W st above hu h0 hne hC hin=>?_⟩;exact PK W B.n0 B.c b3 b4 F A st x above (hu.kept h3 k3) (hu.kept h4 k4) h0 hC hx hin (fun e=>k3 (e▸hc)) (fun e=>k4 (e▸hc)) hne
section
variable {w:World}{p:Nat}{FF:List Nat}{A:NS}{st:Nat}{G:BG}
def Jz(A':NS)(x:Nat)(G:BG):BG×Nat:=iV (fun y=>decide (bZ A' x y)) 1 x A'.cs.length G
theorem Yt{x:Nat}{k s:Int}(I:Dk A G)(hB:jg A x k s=true)(hx:x<A.cs.length):Dk (ay A x k s) (Jz (ay A x k s) x G).1:=by
 obtain⟨X,hk⟩:=CQ I hB hx;have hn:=fE A x k s;have hx':x<(ay A x k s).cs.length:=by rw[hn];exact hx
 have E:=Hg (hp:=fun y=>decide (bZ (ay A x k s) x y)) (ct:=1) hx' (ay A x k s).cs.length X ω;have K:=AY (hp:=fun y=>decide (bZ (ay A x k s) x y)) (ct:=1) hx' (fun p _ h=>of_decide_eq_true h) (ay A x k s).cs.length X (by rw[hn];exact hk);refine E.1.done hx' K (fun p hp=>?_);rcases E.2 with h|⟨p',h1,h2⟩
 ·have hp:(Jz (ay A x k s) x G).1.F.u x=p:=hp;have h:(Jz (ay A x k s) x G).1.F.u x=-1:=h;omega
 ·have hp:(Jz (ay A x k s) x G).1.F.u x=p:=hp;have h1:(Jz (ay A x k s) x G).1.F.u x=p':=h1;obtain rfl:p=p':=ω;have hne:x≠p:=fun e=>by
   subst e;exact E.1.fh.f.self hx' (E.1.fh.f.above hx' h1).2
  exact(je hne).resolve_left (of_decide_eq_false h2)
theorem Us(h:IX w p FF A st G)(x:Nat)(k s:Int)(hk:-9223372036854775808<=k/\k<=9223372036854775807/\0<=s/\s<=18446744073709551615)(hB:jg A x k s=true) :
  Calls Tryz.prog 175 #[.pointer (some ⟨p,0,none⟩),.int .i64 (x:Int),.agg #[.int .i64 k,.int .u64 s]] w fun e w'=>e=.returned (.bool true)/\
   Goes FF w w' (fun Jl=>IX w' p Jl (ay A x k s) (bT st (Jz (ay A x k s) x G).2) (Jz (ay A x k s) x G).1):=by
 obtain⟨⟨B,F,gr,cr,lo,S,vs,rfl,rfl,M,eF⟩,I⟩:=h;have hin:=rq hB;obtain⟨hx,hhome⟩:=(ah _ _).1 hin;obtain⟨X, -⟩:=CQ I hB hx;have I2:=Yt I hB hx;have hcs:=fE A (x:Int) k s;have lT:=lJ A (x:Int) k s;have hix:=iM hB hx x;have hin2:bS (ay A x k s) (x:Int)=true:=(ah _ _).2 ⟨ω,ω⟩;have QW:=iX M.cells.ok hin;rw[π]at QW;obtain⟨q,hq0,hq1,hqv⟩:=M.hq QW;obtain⟨w3,hw3⟩:∃w3,w3=((w.alloc (.cells #[.pointer (some ⟨B.n0,0,none⟩)] 174)).alloc (.cells #[.int .i64 (x:Int)] 3)).alloc (.cells #[.int .i64 k,.int .u64 s] 129):=⟨_,rfl⟩;have u3:aa [] w w3:=by rw[hw3];exact β
 have s3:w3.heap.size=w.heap.size+3:=by rw[hw3];simp
 have b3:w3.cell? ⟨w.heap.size,0,none⟩=some (.pointer (some ⟨B.n0,0,none⟩)):=by rw[hw3];go_simp
 have b4:w3.cell? ⟨w.heap.size+1,0,none⟩=some (.int .i64 (x:Int)):=by rw[hw3];go_simp
 have b5:w3.cell? ⟨w.heap.size+1+1,0,none⟩=some (.int .i64 k):=by rw[hw3];go_simp
 have b6:w3.cell? ⟨w.heap.size+1+1,1,none⟩=some (.int .u64 s):=by rw[hw3];go_simp
 have nF:∀j,w.heap.size+j∉F:=fun j hm=>by have:=M.cells.lt _ hm;omega
 have kl:=fun W (hW:aa [] w3 W)=>iE (M.cells.au (u3.trans hW)) x k s hk hB;have h0:=u3.was M.h0;have uW:=M.d1.1;have r0:∀W,aa F w3 W->W.cell? ⟨B.n0,0,none⟩=some (.pointer (some ⟨B.c,0,none⟩)):=fun W hW=>hW.kept h0 uW;have r3:∀W,aa F w3 W->W.cell? ⟨w.heap.size,0,none⟩=some (.pointer (some ⟨B.n0,0,none⟩)):=fun W hW=>hW.kept b3 (nF 0);have r4:∀W,aa F w3 W->W.cell? ⟨w.heap.size+1,0,none⟩=some (.int .i64 (x:Int)):=fun W hW=>hW.kept b4 (nF 1);have r5:∀W,aa F w3 W->W.cell? ⟨w.heap.size+1+1,0,none⟩=some (.int .i64 k):=fun W hW=>hW.kept b5 (nF 2)
 have r6:∀W,aa F w3 W->W.cell? ⟨w.heap.size+1+1,1,none⟩=some (.int .u64 s):=fun W hW=>hW.kept b6 (nF 2);have HM:=χ M;have HI:=χ (ψ X (ψ I2 (ψ eF (ψ hcs (ψ lT hin2)))));have HW:=χ hw3;clear M I X I2 eF hcs lT hin QW h0 b3 b4 b5 b6 hB nF hw3;generalize hA':ay A (x:Int) k s=A' at *;rw[hq0]at hix
 go_enter Tryz.func175,Tryz.ntmps175
 go_wp2;rw[←HW.out]
 go_region_held3 (aa F w3) (exact ν)
  (first
   | ((go_at_call 147;(with_reducible refine(kl _ β).mono ?_));rintro e w4 ⟨rfl,Qp,gX⟩;(have YM:aa F w3 w4:=aa.trans ν gX)))
 have kh:=fun W (hW:aa [] w4 W)=>dQ (Qp.au hW) x HI.out.2.2.2.2.2;rw[hix]at kh;go_wp2
 go_region_held3 (aa F w3) (exact ν)
  (first
   | ((go_at_call 140;(with_reducible refine(kh _ β).mono ?_));rintro e w5 ⟨rfl,Uu,bW⟩;(have Jy:aa F w3 w5:=aa.trans ν bW)))
 have wL:=(HM.out.au u3).cB Jy Uu (fun y hy=>Or.inl hy) HI.out.2.2.2.1 (by rw[HI.out.2.2.2.2.1]);have g3:=r3 w5 Jy;have g4:=r4 w5 Jy;have hlt:=HM.out.lt;have hcs:=HI.out.2.2.2.1;have hKK:∀j,w.heap.size+j∉B.blk F gr A'.cs.length S vs:=fun j hm=>by rw[hcs]at hm;have:=hlt _ hm;omega
 have H5:=fun(W:World) (hW:aa [] w5 W)=>J5 W (B.blk F gr A'.cs.length S vs) B F A' w.heap.size (w.heap.size+1) x (hW.was g3) (hW.was g4) HI.out.2.2.2.2.2 (hKK 0) (hKK 1) (yF _ HM.out.cells.mem);have kL:=fun W (hW:aa [] w5 W)=>OC (wL.au hW) HI.out.2.2.1 HI.out.1 ω (by rw[hix];omega) hix hqv (H5 W hW);have vQ:=χ wL;clear wL Uu Qp kh kl r0 r5 r6 hlt hKK r3 r4
 go_wp2_with (first
  | ((go_at_call 183;(with_reducible refine(kL _ β).mono ?_));rintro e w6 ⟨rfl,S6,uG,hF6,ik,hb6⟩)
  | fail)
 go_ret;have hcs:=HI.out.2.2.2.1;have uw:aa (B.blk F gr A.cs.length S vs) w w6:=by
  rw[hcs]at ik;exact((u3.mono σ).trans (Jy.mono yF)).trans (aa.trans ν ik)
 refine⟨rfl,B.blk F gr A'.cs.length S6 vs,⟨⟨B,F,gr,cr,lo,S6,vs,rfl,rfl,uG,hF6⟩,HI.out.2.1⟩,uw,fun y hy=>Or.inl ?_⟩;rw[hcs]at hy hb6;simp only[BB.blk,ρ,τ]at hy⊢;rcases hy with e|e|e|e|e|e|e
 ·exact Or.inl e
 ·exact Or.inr (Or.inl e)
 ·exact Or.inr (Or.inr (Or.inl e))
 ·exact Or.inr (Or.inr (Or.inr (Or.inl e)))
 ·exact Or.inr (Or.inr (Or.inr (Or.inr (Or.inl e))))
 ·exact Or.inr (Or.inr (Or.inr (Or.inr (Or.inr (Or.inl (hb6 y e))))))
 ·exact Or.inr (Or.inr (Or.inr (Or.inr (Or.inr (Or.inr e)))))
end
theorem V4:(Tryz.prog.info? 26).map (fun i=>(i.zero,i.size,i.bytes))=some (some (.slice none 0 0),1,24):=by kernel_rfl
theorem Y9{A:NS}{G:BG}(I:Dk A G)(ok:A.Ok):G.R A.hs.length=[]:=by
 cases e:G.R A.hs.length with
 | nil=>rfl
 | cons x t=>
  have hx:x∈G.R A.hs.length:=by rw[e];simp
  obtain⟨y,_,hy,_,hh,_⟩:=Q9 I hx;have:=ok.nat y hy;omega
theorem Df(vs:List Value)(v:Value)(k:Nat):(vs++[v]).getD k undef=if k<vs.length then vs.getD k undef else if k=vs.length then v else undef:=by
 simp only[φ]
 by_cases e:k<vs.length
 ·rw[List.getElem?_append_left e,if_pos e]
 ·rw[List.getElem?_append_right ω,if_neg e]
  by_cases e2:k=vs.length
  ·subst e2;simp
  ·rw[if_neg e2,List.getElem?_eq_none ζ];rfl
section
variable {w:World}{p:Nat}{FF:List Nat}{A:NS}{st:Nat}{G:BG}
theorem OO(h:IX w p FF A st G) :
  Calls Tryz.prog 179 #[.pointer (some ⟨p,0,none⟩)] w fun e w'=>e=.returned (.int .i64 (dm A))/\Goes FF w w' (fun Jl=>IX w' p Jl (aR A) st G):=by
 obtain⟨⟨B,F,gr,cr,lo,S,vs,rfl,rfl,M,eF⟩,I⟩:=h;have k:=iR M.cells;have h0:=M.h0;have I2:=Vl I
 by_cases hl:65536<A.hs.length
 ·have e1:dm A=0:=by unfold dm;rw[if_pos hl]
  have e2:aR A=A:=by unfold aR;rw[if_pos hl]
  rw[e1,e2]at k;rw[e1,e2];have HM:=χ M;have HI:=χ (ψ I eF);clear M I eF e1 e2 I2
  go_enter Tryz.func179,Tryz.ntmps179
  go_wp2_with ((go_at_call 156;(with_reducible refine(k).mono ?_));rintro e w1 ⟨rfl,F1,hC,hu,hF⟩)
  go_ret;refine⟨rfl,B.blk F1 gr A.cs.length S vs,⟨⟨B,F1,gr,cr,lo,S,vs,rfl,rfl,HM.out.cB hu hC hF rfl rfl,HI.out.2⟩,HI.out.1⟩,hu.mono yF,fun y hy=>?_⟩;simp only[BB.blk,ρ,τ]at hy⊢;rcases hy with e|e|e|e|e|e|e
  ·exact Or.inl (Or.inl e)
  ·exact Or.inl (Or.inr (Or.inl e))
  ·exact Or.inl (Or.inr (Or.inr (Or.inl e)))
  ·exact Or.inl (Or.inr (Or.inr (Or.inr (Or.inl e))))
  ·rcases hF y e with h'|h'
   ·exact Or.inl (Or.inr (Or.inr (Or.inr (Or.inr (Or.inl h')))))
   ·exact Or.inr h'
  ·exact Or.inl (Or.inr (Or.inr (Or.inr (Or.inr (Or.inr (Or.inl e))))))
  ·exact Or.inl (Or.inr (Or.inr (Or.inr (Or.inr (Or.inr (Or.inr e))))))
 ·have e1:dm A=A.hs.length:=by unfold dm;rw[if_neg hl]
  rw[e1]at k;rw[e1];have hcs:(aR A).cs.length=A.cs.length:=by rw[LC]
  have lT:(aR A).hs.length=A.hs.length+1:=by unfold aR;rw[if_neg hl];simp
  have hh0:=M.cells.ok.h0;have hvl:vs.length<=65536:=by rw[M.len];omega
  have hlen:=M.len;have hpos:(0:Int)<(A.hs.length:Int):=ω;have HM:=χ M;have HI:=χ (ψ I2 (ψ eF (ψ (Y9 I M.cells.ok) hlen)));clear M I e1 I2 eF hlen
  go_enter Tryz.func179,Tryz.ntmps179
  go_wp2_with (first
   | ((go_at_call 156;(with_reducible refine(k).mono ?_));rintro e w1 ⟨rfl,F1,hC,hu,hF⟩;(have d3:=hu.kept HM.out.h2 HM.out.d1.1);(have f3:=hu.aS HM.out.h2 HM.out.d1.1 (HM.out.head.free 2));(have ho1:=aC HM.out.rows hu (fun g hg=>by simp[Value.ownBlock]at hg;subst hg;exact HM.out.d1.2.2.2));(have g0:B.n0≠gr:=HM.out.d2.2.2.1);(have gl:=Nat.lt_of_lt_of_le HM.out.FV hu.size))
   | ((at_builtin;refine aX rfl _ _ 51 rfl 0 26 (.slice none 0 0) 1 24 Tryz.underlying51 V4 rfl δ _ _ _ rfl (ho1) [.slice none 0 0] rfl (by simp[Value.oneCell']) (by first|rfl|(rw[World.size_alloc];rfl)) μ ω ω ?_;intro v2 w2 ho2 hu2 mQ);(have hu2:aa [gr] w1 w2:=hu2);obtain⟨Fw,cr1,ev,_⟩:=gJ ho2 ω;subst ev;(have d4:=hu2.kept d3 ζ);(have f4:=hu2.aS d3 ζ f3)))
  go_ret;have hM:=HM.out;have hlt:=hM.lt;have f:=hM.d1;have q:=hM.d2;have hws:=hu.size;have hw3:aa [B.n0] w2 (w2.setCell ⟨B.n0,2,none⟩ (.slice (some ⟨Fw,0,none⟩) (vs.length+1) cr1)):=β;have hg1:Fw=gr\/w1.heap.size<Fw:=by
   rcases mQ with h|h
   ·exact Or.inl (Option.some.inj h)
   ·exact Or.inr (h Fw rfl)
  have jr:=hC.lt;have l0:=hlt B.n0 (by simp[BB.blk]);have l1:=hlt B.bt (by simp[BB.blk]);have l2:=hlt B.ba (by simp[BB.blk]);have l4:=hM.FV;have hnF:∀y,y<w.heap.size->y∉F->y∉F1:=fun y hy hn hm=>by rcases hF y hm with h'|h';exact hn h';omega
  have Fs:Fw∉F1:=by
   rcases hg1 with e|e
   ·rw[e];exact hnF gr l4 f.2.2.2
   ·exact fun hm=>by have:=jr Fw hm;omega
  have hgn:∀y,y<w.heap.size->y≠gr->y≠Fw:=fun y hy hn e=>by
   rcases hg1 with e2|e2
   ·exact hn (e.trans e2)
   ·omega
  have hcs:=hcs;have hv:(vs++[Value.slice none 0 0]).length=vs.length+1:=σ;have hin:=HI.out.2.2.1;have hhd:=((hM.head.upd hu f.1).upd hu2 ζ).set 2 (.slice (some ⟨Fw,0,none⟩) (vs.length+1) cr1);have Wo:∀j,j<vs.length+1->∀g,((vs++[Value.slice none 0 0]).getD j undef).ownBlock=some g->j<vs.length/\(vs.getD j undef).ownBlock=some g:=fun j hj g hg=>by
   rw[Df]at hg
   by_cases e:j<vs.length
   ·rw[if_pos e]at hg;exact⟨e,hg⟩
   ·rw[if_neg e,if_pos ω]at hg;cases hg
  have hBM:iU (w2.setCell ⟨B.n0,2,none⟩ (.slice (some ⟨Fw,0,none⟩) (vs.length+1) cr1)) B F1 Fw cr1 lo (aR A) st S (vs++[.slice none 0 0]) G.R:=by
   refine⟨?_,?_,?_,?_,by rw[hv,lT,HI.out.2.2.2],fun j hj=>?_,⟨hnF _ l0 f.1,hnF _ l1 f.2.1,hnF _ l2 f.2.2.1,Fs⟩,⟨q.1,q.2.1,hgn _ l0 q.2.2.1,hgn _ l1 q.2.2.2.1,hgn _ l2 q.2.2.2.2⟩,fun g hg=>?_,fun j g hj hg=>?_,fun j k g hj hk hne hg=>?_⟩
   ·rw[hv];refine hhd.ext (fun j hj=>?_);rcases(ω:j=0\/j=1\/j=2)with rfl|rfl|rfl<;>rfl
   ·exact(hC.upd hu2 (fun y hy=>by simp at hy;rw[hy];exact hnF gr l4 f.2.2.2)).upd hw3 (fun y hy=>by simp at hy;rw[hy];exact hnF _ l0 f.1)
   ·rw[hcs];exact((hM.jm.upd hu f.2.1 f.2.2.1 (fun g hg=>(hM.d3 g hg).2.2)).upd hu2 (by simp;exact q.2.2.2.1) (by simp;exact q.2.2.2.2) (fun g hg hm=>by simp at hm;exact(hM.d3 g hg).2.1 hm)).upd hw3 (by simp;exact Ne.symm q.1) (by simp;exact Ne.symm q.2.1) (fun g hg hm=>by simp at hm;exact(hM.d3 g hg).1 hm)
   ·rw[hv];refine aC (lh ho2 (Nat.zero_le _)) hw3 (fun g hg hm=>?_);simp[Value.ownBlock]at hg hm;exact hgn _ l0 q.2.2.1 ω
   ·rw[hv]at hj;rw[Df]
    by_cases e:j<vs.length
    ·rw[if_pos e];exact(((hM.each j e).upd hu (fun g hg=>(hM.d4 j g e hg).2.2.2.2.1)).upd hu2 (fun g hg hm=>by simp at hm;exact(hM.d4 j g e hg).2.2.2.1 hm)).upd hw3 (fun g hg hm=>by simp at hm;exact(hM.d4 j g e hg).1 hm)
    ·obtain rfl:j=vs.length:=ω;rw[if_neg e,if_pos rfl,HI.out.2.2.2,hin];exact bu.nil _ _
   ·rw[hcs]at hg;have:=hM.d3 g hg;have hgl:=(hM.jm.nX hg).2;exact⟨this.1,hgn g hgl this.2.1,hnF g hgl this.2.2⟩
   ·rw[hv]at hj;obtain⟨e,hg⟩:=Wo j hj g hg;have:=hM.d4 j g e hg;have hgl:=hM.yo e hg;rw[hcs];exact⟨this.1,this.2.1,this.2.2.1,hgn g hgl this.2.2.2.1,hnF g hgl this.2.2.2.2.1,this.2.2.2.2.2⟩
   ·rw[hv]at hj hk;obtain⟨e,hg⟩:=Wo j hj g hg;intro h2;obtain⟨e2,h2⟩:=Wo k hk g h2;exact hM.d5 j k g e e2 hne hg h2
  refine⟨rfl,B.blk F1 Fw (aR A).cs.length S (vs++[.slice none 0 0]),⟨⟨B,F1,Fw,cr1,lo,S,_,rfl,rfl,hBM,HI.out.2.1⟩,HI.out.1⟩,((hu.mono yF).trans (hu2.mono (fun y hy=>by simp at hy;subst hy;simp[BB.blk]))).trans (hw3.mono (fun y hy=>by simp at hy;subst hy;simp[BB.blk])),fun y hy=>?_⟩;rw[hcs]at hy;simp only[BB.blk,ρ,τ]at hy⊢;rcases hy with e|e|e|e|e|e|e
  ·exact Or.inl (Or.inl e)
  ·exact Or.inl (Or.inr (Or.inl e))
  ·exact Or.inl (Or.inr (Or.inr (Or.inl e)))
  ·rcases hg1 with e2|e2
   ·exact Or.inl (Or.inr (Or.inr (Or.inr (Or.inl (e.trans e2)))))
   ·exact Or.inr ω
  ·rcases hF y e with h'|h'
   ·exact Or.inl (Or.inr (Or.inr (Or.inr (Or.inr (Or.inl h')))))
   ·exact Or.inr h'
  ·exact Or.inl (Or.inr (Or.inr (Or.inr (Or.inr (Or.inr (Or.inl e))))))
  ·obtain⟨j,hj,hg⟩:=jK.1 e;rw[hv]at hj;obtain⟨e3,hg⟩:=Wo j hj y hg;exact Or.inl (Or.inr (Or.inr (Or.inr (Or.inr (Or.inr (Or.inr (jK.2 ⟨j,e3,hg⟩)))))))
end
theorem QX(n:Nat)(w:World)(h:n<=65536) :
  Calls Tryz.prog 94 #[.int .i64 (n:Int)] w fun e w'=>∃p FF,e=.returned (.tuple #[.pointer (some ⟨p,0,none⟩),.int .i64 0])/\IX w' p FF (NS.new n) 0 BG.none/\aa [] w w'/\∀x,x∈FF->w.heap.size<=x:=by
 have k:=oo n w h;have kc:=fun W=>EO n W h
 go_enter Tryz.func94,Tryz.ntmps94
 go_wp2_with (first
  | ((go_at_call 107;(with_reducible refine(k).mono ?_));rintro e w1 ⟨c,F,rfl,hC,hu1,hF⟩)
  | ((go_at_call 109;(with_reducible refine(kc _).mono ?_));rintro e w2 ⟨bt,ba,rfl,hFo,hu2,hbt,I8⟩))
 go_ret2;have hn:(NS.new n).cs.length=n:=by simp[NS.new]
 obtain⟨w3,hw3⟩:∃w3,w3=w2.alloc (.cells #[.slice none 0 0] 26):=⟨_,rfl⟩;have hs3:w3.heap.size=w2.heap.size+1:=by rw[hw3];simp
 have u3:aa [] w2 w3:=by rw[hw3];exact(aa.refl _ _).alloc _
 have o3:w3.ownsRow 0 26 1 (.slice (some ⟨w2.heap.size,0,none⟩) 1 1) 1 [.slice none 0 0]:=by rw[hw3];exact nE w2 [.slice none 0 0] 26 0 1 1 rfl (Nat.zero_le _) μ
 rw[←hw3];have hR:=dP w3 [Value.pointer (some ⟨c,0,none⟩),.pointer (some ⟨bt,0,none⟩),.slice (some ⟨w2.heap.size,0,none⟩) 1 1] 212;rw[hs3]at hR;have u4:aa [] w3 (w3.alloc (.cells #[.pointer (some ⟨c,0,none⟩),.pointer (some ⟨bt,0,none⟩),.slice (some ⟨w2.heap.size,0,none⟩) 1 1] 212)):=(aa.refl _ _).alloc _;have z1:=hu1.size;have z2:=hu2.size;have LA:=hC.lt;have hb1:=hFo.head.lt;have hb2:=hFo.row.lt;have hFn:∀y,w1.heap.size<=y->y∉F:=fun y hy hm=>by have:=LA y hm;omega
 have hno:∀m g,g∉CS.none.blk m:=fun m g hg=>by
  obtain⟨y,_,e⟩:=(CS.jY _ m g).1 hg;cases e
 have hv0:∀h,h < [Value.slice none 0 0].length->[Value.slice none 0 0].getD h undef=Value.slice none 0 0:=fun h hh=>by
  have:h=0:=by simp at hh;omega
  subst this;rfl
 have hBM:iU (w3.alloc (.cells #[.pointer (some ⟨c,0,none⟩),.pointer (some ⟨bt,0,none⟩),.slice (some ⟨w2.heap.size,0,none⟩) 1 1] 212)) ⟨w2.heap.size+1,c,bt,ba⟩ F w2.heap.size 1 w2.heap.size (NS.new n) 0 CS.none [.slice none 0 0] BG.none.R:=by
  refine⟨hR,hC.au (hu2.trans (u3.trans u4)),by rw[hn];exact hFo.au (u3.trans u4),aC o3 u4 σ,rfl,fun h hh=>by rw[hv0 h hh];exact bu.nil _ _,⟨hFn _ (by simp only;omega),hFn _ (by simp only;omega),hFn _ (by simp only;omega),hFn _ ω⟩,⟨?_,?_,?_,?_,?_⟩,fun g hg=>absurd hg (hno _ g),fun h g hh hg=>(by rw[hv0 h hh]at hg;cases hg),fun h k g hh hk _ hg=>(by rw[hv0 h hh]at hg;cases hg)⟩
  all_goals simp only;omega
 refine⟨w2.heap.size+1,_,by simp[hs3],⟨⟨⟨w2.heap.size+1,c,bt,ba⟩,F,w2.heap.size,1,w2.heap.size,CS.none,[.slice none 0 0],rfl,rfl,hBM,rfl⟩,Yu n⟩,hu1.trans (hu2.trans (u3.trans u4)),fun y hy=>?_⟩;simp only[BB.blk,ρ,τ]at hy;rcases hy with e|e|e|e|e|e|e
 ·omega
 ·omega
 ·omega
 ·omega
 ·exact hF y e
 ·exact absurd e (hno _ y)
 ·obtain⟨j,hj,hg⟩:=jK.1 e;rw[hv0 j hj]at hg;cases hg
theorem Gn(p c:Nat):∀W:World,W.cell? ⟨p,0,none⟩=some (.pointer (some ⟨c,0,none⟩))->(method 429 174 (.pointer (some ⟨p,0,none⟩)) "Has").run Tryz.prog W=.ok (139,.pointer (some ⟨c,0,none⟩)) W:=(by intro W h;unfold method;have hm:∃m,(Array.find? (fun x=>x.name == "Has") Tryz.t174.methods)=some m/\m.path.toList=[⟨212,0,true⟩]/\m.func=some (139,true)/\m.path.isEmpty=false:=⟨(Array.find? (fun x=>x.name == "Has") Tryz.t174.methods).get!,by kernel_rfl,by kernel_rfl,by kernel_rfl,by kernel_rfl⟩;obtain⟨m,h1,h2,h3,h4⟩:=hm;go_simp;simp only[follow,Place.get];go_simp;(try unfold receiverAt);(try simp only[Place.get]);(try go_simp))
theorem BV(p c:Nat):∀W:World,W.cell? ⟨p,0,none⟩=some (.pointer (some ⟨c,0,none⟩))->(method 429 174 (.pointer (some ⟨p,0,none⟩)) "Entry").run Tryz.prog W=.ok (137,.pointer (some ⟨c,0,none⟩)) W:=(by intro W h;unfold method;have hm:∃m,(Array.find? (fun x=>x.name == "Entry") Tryz.t174.methods)=some m/\m.path.toList=[⟨212,0,true⟩]/\m.func=some (137,true)/\m.path.isEmpty=false:=⟨(Array.find? (fun x=>x.name == "Entry") Tryz.t174.methods).get!,by kernel_rfl,by kernel_rfl,by kernel_rfl,by kernel_rfl⟩;obtain⟨m,h1,h2,h3,h4⟩:=hm;go_simp;simp only[follow,Place.get];go_simp;(try unfold receiverAt);(try simp only[Place.get]);(try go_simp))
theorem QF(p:Nat):∀W:World,(method 429 174 (.pointer (some ⟨p,0,none⟩)) "Make").run Tryz.prog W=.ok (179,.pointer (some ⟨p,0,none⟩)) W:=fun _=>by kernel_rfl
theorem KV(p:Nat):∀W:World,(method 429 174 (.pointer (some ⟨p,0,none⟩)) "Insert").run Tryz.prog W=.ok (178,.pointer (some ⟨p,0,none⟩)) W:=fun _=>by kernel_rfl
theorem Vu(p:Nat):∀W:World,(method 429 174 (.pointer (some ⟨p,0,none⟩)) "Min").run Tryz.prog W=.ok (181,.pointer (some ⟨p,0,none⟩)) W:=fun _=>by kernel_rfl
theorem GL(p:Nat):∀W:World,(method 429 174 (.pointer (some ⟨p,0,none⟩)) "Extract").run Tryz.prog W=.ok (177,.pointer (some ⟨p,0,none⟩)) W:=fun _=>by kernel_rfl
theorem Eh(p:Nat):∀W:World,(method 429 174 (.pointer (some ⟨p,0,none⟩)) "Decrease").run Tryz.prog W=.ok (175,.pointer (some ⟨p,0,none⟩)) W:=fun _=>by kernel_rfl
theorem yw{w w':World}{p:Nat}{F S:List Nat}{A:NS}{st:Nat}{G:BG}(h:IX w p F A st G)(hu:aa S w w')(hS:∀x,x∈S->x∉F):IX w' p F A st G:=by
 obtain⟨⟨B,F1,gr,cr,lo,S1,vs,rfl,rfl,M,eF⟩,I⟩:=h;exact⟨⟨B,F1,gr,cr,lo,S1,vs,rfl,rfl,M.upd hu hS,eF⟩,I⟩
theorem ac2{w:World}{p:Nat}{F:List Nat}{A:NS}{st:Nat}{G:BG}(h:IX w p F A st G):∀x,x∈F->x<w.heap.size:=by
 obtain⟨⟨B,F1,gr,cr,lo,S1,vs,rfl,rfl,M,eF⟩,I⟩:=h;exact M.lt
theorem abx{w:World}{p:Nat}{F:List Nat}{A:NS}{st:Nat}{G:BG}(h:IX w p F A st G):A.Ok:=by
 obtain⟨⟨B,F1,gr,cr,lo,S1,vs,rfl,rfl,M,eF⟩,I⟩:=h;exact M.cells.ok
theorem Xj{w:World}{p:Nat}{F:List Nat}{A:NS}{st:Nat}{G:BG}(h:IX w p F A st G):∃c F1,w.cell? ⟨p,0,none⟩=some (.pointer (some ⟨c,0,none⟩))/\aF w c F1 A st:=by
 obtain⟨⟨B,F1,gr,cr,lo,S1,vs,rfl,rfl,M,eF⟩,I⟩:=h;exact⟨B.c,F1,M.h0,M.cells⟩
def BnQ(w:World)(p:Nat)(F:List Nat)(A:NS):Prop:=∃st G,IX w p F A st G
noncomputable def zu:gW where
 ty:=174
 at_:=BnQ
 upd:=fun h hu hS=>by
  obtain⟨st,G,hL⟩:=h;exact⟨st,G,yw hL hu hS⟩
 lt:=fun h=>by
  obtain⟨st,G,hL⟩:=h;exact ac2 hL
 ok:=fun h=>by
  obtain⟨st,G,hL⟩:=h;exact abx hL
 make:=fun {w p F A} h=>by
  obtain⟨st,G,hL⟩:=h;refine aZ 179 (fun _ _=>by kernel_rfl) (QF _) (fun W hW=>?_);refine(OO (yw hL hW σ)).mono ?_;rintro e w' ⟨rfl,F',hA,hu,hf⟩;exact⟨rfl,F',⟨_,_,hA⟩,hu,hf⟩
 insert:=fun {w p F A} g y k s hk hB h=>by
  obtain⟨st,G,hL⟩:=h;refine aZ 178 (fun _ _=>by kernel_rfl) (KV _) (fun W hW=>?_);refine(GK (yw hL hW σ) g y k s hk hB).mono ?_;rintro e w' ⟨rfl,F',hA,hu,hf⟩;exact⟨rfl,F',⟨_,_,hA⟩,hu,hf⟩
 min:=fun {w p F A} y hB h=>by
  obtain⟨st,G,hL⟩:=h;refine aZ 181 (fun _ _=>by kernel_rfl) (Vu _) (fun W hW=>?_);have mq:=yw hL hW σ;obtain⟨⟨B,F1,gr,cr,lo,S1,vs,rfl,rfl,M,eF⟩,I⟩:=mq;refine(Gf M I (y:Int)).mono ?_;rintro e w' ⟨rfl,hM2,hu⟩;exact⟨rfl,Goes.stay ⟨_,_,⟨B,F1,gr,cr,lo,S1,vs,rfl,rfl,hM2,eF⟩,I⟩ (hu.mono (fun y hy=>by simp at hy;subst hy;exact yF _ M.cells.mem))⟩
 extract:=fun {w p F A} y m hm h=>by
  obtain⟨st,G,hL⟩:=h;refine aZ 177 (fun _ _=>by kernel_rfl) (GL _) (fun W hW=>?_);have mq:=yw hL hW σ;have e2:uU A (y:Int)=bz A (m:Int):=by unfold uU;rw[hm]
  have k:=Ev mq (y:Int);rw[e2,hm]at k;refine k.mono ?_;rintro e w' ⟨rfl,F',hA,hu,hf⟩;exact⟨rfl,F',⟨_,_,hA⟩,hu,hf⟩
 mD:=fun {w p F A} y k s hk hB h=>by
  obtain⟨st,G,hL⟩:=h;refine aZ 175 (fun _ _=>by kernel_rfl) (Eh _) (fun W hW=>?_);have mq:=yw hL hW σ;refine(Us mq y k s hk hB).mono ?_;rintro e w' ⟨rfl,F',hA,hu,hf⟩;exact⟨rfl,F',⟨_,_,hA⟩,hu,hf⟩
 has:=fun x h=>by
  obtain⟨st,G,hL⟩:=h;obtain⟨c,F1,h0,hC⟩:=Xj hL;exact iN 139 (fun _ _=>by kernel_rfl) h0 (Gn _ _) (fun W hW=>jN (hC.au hW) x)
 entry:=fun {w p F A} x h=>by
  obtain⟨st,G,hL⟩:=h;obtain⟨c,F1,h0,hC⟩:=Xj hL;refine iN 137 (fun _ _=>by kernel_rfl) h0 (BV _ _) (fun W hW=>?_);cases hin:bS A x with
  | false=>simpa using l8 (hC.au hW) x hin
  | true=>
   obtain⟨y,rfl⟩:=qC hin;simpa using j5 (hC.au hW) y hin
theorem KU(p:Nat)(w:World):Calls Tryz.prog 93 #[.pointer (some ⟨p,0,none⟩),.int .i64 0] w fun e w'=>e=.returned (.tuple #[.iface 174 (.pointer (some ⟨p,0,none⟩)),.int .i64 0])/\w'=w:=by
 go_enter Tryz.func93,Tryz.ntmps93
 go_wp2;go_ret2;exact⟨rfl,rfl⟩
theorem QG(n:Nat)(hn:n<=65536):pJ zu 3 0 n:=by
 intro w;have kn:=fun W=>QX n W hn;have km:=KU;have hty:zu.ty=174:=rfl;have hat:∀w' p FF,IX w' p FF (NS.new n) 0 BG.none->zu.at_ w' p FF (NS.new n):=fun w' p FF h=>⟨_,_,h⟩
 generalize zu=K at *;rw[hty]
 go_enter Tryz.func81,Tryz.ntmps81
 go_wp2_with (first
  | ((go_at_call 94;(with_reducible refine(kn _).mono ?_));rintro e w1 ⟨pn,FF,rfl,hS,hu1,hf⟩)
  | ((go_at_call 93;(with_reducible refine(km _ _).mono ?_));rintro e w2 ⟨rfl,rfl⟩)
  | fail)
 go_ret2;exact⟨pn,FF,rfl,hat _ _ _ hS,aa.trans β hu1,fun x hx=>by have:=hf x hx;simp at this;omega⟩
end Go.Proofs.YtklibcncmbofpaaGreat
