/-
  Lemmas.
-/
import Derived.Test.YtnpdakpagnpanaaGreatE26
set_option linter.all false
set_option maxHeartbeats 8000000
set_option maxRecDepth 10000
namespace Go.Proofs.YtnpdakpagnpanaaGreat
open Tryz
open Go Go.RowKit
def kY.beside{w a:World}{F B:List Nat}{v:Value}{l:List Hd}(h:kY w F v l)(c:ae [] w a)(e:∀b,b∈B->w.heap.size<=b):kY a (B++F) v l:=
 h.fresh (c.mono σ) (λg d=>by grind)
def kY.fin1{a X:World}{F B:List Nat}{v:Value}{l:List Hd}(h:kY a (B++F) v l)(d:ae B a X):kY X F v l:=
 h.fresh (d.mono (λx b=>τ.2 (Α b))) (λg c=>Α (τ.2 (Β c)))
def Kg{w W:World}{F:List Nat}(b:∀x,x∈F->x<w.heap.size)(c:ae [] w W)(d:w.heap.size+1+1<W.heap.size):∀x,x∈[w.heap.size,w.heap.size+1,w.heap.size+1+1]++F->x<W.heap.size:=λx a=>by
 rcases τ.1 a with a|a
 .simp at a;omega
 .exact Ψ (b x a) c.size
section
variable{w:World}{F:List Nat}{v:Value}{S:St}
def WV{W:World}{vT vG:Value}{T:List Hd}{cap m:Int}(h:Calls prog 76 #[.agg #[cap,.int .u32 m,vT,vG]] W λe w'=>∃v',e=.returned (Tz none cap m vT v' vG)/\(∀p,(none:Option Hd)=some p->kY w' F v' (T++[p]))/\ae [] W w'):
  Calls prog 76 #[.agg #[cap,.int .u32 m,vT,vG]] W λe w'=>e=.returned (.tuple #[.agg #[cap,.int .u32 m,vT,vG],.agg #[(0:Int),.int .u32 0],(32:Int)])/\ae [] W w':=by
 refine h.mono ?_;rintro e w' ⟨v',rfl, -,a⟩;exact⟨rfl,a⟩
def Lr{W:World}{vT vG:Value}{T:List Hd}{cap m:Int}{q:Hd}(h:Calls prog 76 #[.agg #[cap,.int .u32 m,vT,vG]] W λe w'=>∃v',e=.returned (Tz (some q) cap m vT v' vG)/\(∀p,some q=some p->kY w' F v' (T++[p]))/\ae [] W w'):
  Calls prog 76 #[.agg #[cap,.int .u32 m,vT,vG]] W λe w'=>∃a c,e=.returned (.tuple #[.agg #[cap,.int .u32 m,.slice a (T.length+1) c,vG],.agg #[q.1,.int .u32 q.2],(0:Int)])/\kY w' F (.slice a (T.length+1) c) (T++[q])/\ae [] W w':=by
 refine h.mono ?_;rintro e w' ⟨v',rfl,b,d⟩;have b:=b q rfl;obtain⟨a,c,rfl, -, -⟩:=b.open;rw[show(T++[q]).length=T.length+1 by simp] at b;exact⟨a,c,by rw[show(T++[q]).length=T.length+1 by simp];rfl,b,d⟩
def Gl(h:bE w F v S):∀W a X,ae [] w W->ae [] W a->ae [w.heap.size,w.heap.size+1,w.heap.size+1+1] a X->bE X F v S/\ae [] w X:=λW a X e f g=>by
 have d:∀b,b∈[w.heap.size,w.heap.size+1,w.heap.size+1+1]->w.heap.size<=b:=λb i=>by simp at i;omega
 have c:=(e.trans f).joined g (λx j=>Β (d x j));exact⟨h.ag c,c⟩
theorem Qh(h:bE w F v S)(ok:S.Ok)(hF:∀x,x∈F->x<w.heap.size)(uB:S.q<=1000)(x k:Int):
  Calls prog 47 #[v,.int .i64 x,.int .i64 k] w λe w'=>∃v',e=.returned (.tuple #[v',(mF S x k).2.v])/\bE w' F v' (mF S x k).1/\ae [] w w':=by
 obtain⟨aT,aG,cT,cG,gh,oh,ch,gc,oc,cc,T,G,rfl,hT,hG,hM,nz,hq⟩:=h.open;have F6:=nz.lens;have hB0:∀b,b∈[w.heap.size,w.heap.size+1,w.heap.size+1+1]->w.heap.size<=b:=λb hb=>by simp at hb;omega
 have hbt:∀p,si T G S.R.sl.length S.R.most=some p->0<=p.2/\p.2<=4294967295:=λp hp=>by
  rw[nz.si ok.2.1] at hp;cases ht:jF S.R with
  |none=>rw[ht] at hp;cases hp
  |some y=>
   rw[ht] at hp;cases hp;obtain⟨y,R'⟩:=y;have h1:=qw ok.2.1 ht;have h2:=ok.2.1.WE;dsimp only;omega
 have k1:=λW (hW:ae [] w W)=>lK (⟨gh,oh,ch,gc,oc,cc,rfl,hM.ag hW⟩:gM W F (ic gh oh ch gc oc cc S.A) S.A) ok.1 x;have k2:=λW (hW:ae [] w W) (hl:w.heap.size+1+1<W.heap.size)=>Mw (hT.beside hW hB0) (hG.beside hW hB0) ω ω (Kg hF hW hl) S.R.sl.length S.R.most hbt;rw[nz.si ok.2.1] at k2;rw[Y1];unfold mF xR
 by_cases h1:aW S.A x=true
 .rw[h1] at k1;rw[Δ h1];cases ht:jF S.R with
  |none=>
   rw[ht] at k2;have k2:=λW (hW:ae [] w W) hl=>WV (k2 W hW hl);dsimp only;unfold ic at k1;have HF:=χ (Gl h);clear h hT hG hM nz ok hq F6 uB hbt hB0 h1 ht
   go_enter func47,ntmps47
   (go_upto_region 1 with(fail);refine aU (Gy w S.R.sl.length S.R.most (.slice aT T.length cT) (.slice aG G.length cG) (.slice (some ⟨gh,oh,none⟩) S.A.hs.length ch) (.slice (some ⟨gc,oc,none⟩) S.A.cs.length cc) S.q) {} ?_;rintro W ⟨hd,f4,f5,hW,hR,hRr⟩;have hl2:w.heap.size+1+1<W.heap.size:=Ε _ _ (hRr.cell 0 ω))
   have k1:=k1 W hW;have k2:=λw1 (hu:ae [] W w1)=>k2 w1 (hW.trans hu) (Ψ hl2 hu.size);obtain⟨d0,d1,d2,d3,d4,d5,d6⟩:=id hd
   go_wp2_with (first
    |(((with_reducible refine k1.mono ?_));rintro e w1 ⟨rfl,hu1⟩;obtain⟨e0,e1,e2,e3,e4,e5,e6⟩:=hd.kept hu1 σ)
    | (((with_reducible refine (k2 _ hu1).mono ?_));rintro e w2 ⟨rfl,hu2⟩;(have jq:=hu1.trans hu2);obtain ⟨i0,i1,i2,i3,i4,i5,i6⟩:=hd.kept jq σ;(have uj:=hR.upd jq σ);(have hRy:=hRr.upd jq σ);(obtain ⟨t0,t1,t2,t3,t4,t5,t6,s0,s1,s2,s3,s4,s5,s6,hBl⟩:=seven uj);(obtain ⟨u0,u1,u2,u3,u4,u5,v0,v1,v2,v3,v4,v5,hBm⟩:=oV hRy);(have hb1:=Ε _ _ i0);(have hb2:=Ε _ _ u0)))
   refine bodyPost_ret (v:=.tuple #[.agg #[.int .i64 (S.R.sl.length:Int),.int .u32 (S.R.most:Int),.slice aT T.length cT,.slice aG G.length cG,.slice (some ⟨gh,oh,none⟩) S.A.hs.length ch,.slice (some ⟨gc,oc,none⟩) S.A.cs.length cc,.int .u64 (S.q:Int)],.agg #[.int .i64 32,.int .i64 0,.int .i64 0,.int .u32 0,.int .i64 0,.int .i64 0]]) (by simp[results,results47,go_sem,t0,t1,t2,t3,t4,t5,t6,u0,u1,u2,u3,u4,u5,hBl,hb1,hb2]) rfl ?_;refine⟨_,rfl,(HF.out _ _ _ hW jq ?_).1,(HF.out _ _ _ hW jq ?_).2⟩
   all_goals
    refine ae.alloc (ae.alloc ?_ _) _
    iterate 13 (refine ae.setCell ?_ (Α σ) _)
    exact ae.refl _ _
  |some y=>
   obtain⟨y,R'⟩:=y;rw[ht] at k2;have k2:=λW (hW:ae [] w W) hl=>Lr (k2 W hW hl);have hk:=qw ok.2.1 ht;have Wi:=nz.take ok.2.1 ht;have hlen:R'.sl.length=S.R.sl.length:=by rw[hk.2.2.2.2.1];simp
   have JP:R'.most=S.R.most:=hk.2.2.2.2.2.1;have hwq:=IntWalk.u64_in ((S.q:Int)+1) ω;have k3:=λW (hW:ae [] w W) (hl:w.heap.size+1+1<W.heap.size)=>xZ (Xx (⟨gh,oh,ch,gc,oc,cc,rfl,hM.beside hW hB0⟩:gM W ([w.heap.size,w.heap.size+1,w.heap.size+1+1]++F) (ic gh oh ch gc oc cc S.A) S.A) ok.1 (Kg hF hW hl) x (y:Int) k ((S.q:Int)+1));unfold ic at k1 k3;dsimp only at k2 ⊢
   have HF:Hid (∀ (W w2 w3 X:World) (a1:Option Addr) (c1 zf uG zg y8 ze zh:Nat),ae [] w W->ae [] W w2->ae [] w2 w3->kY w2 ([w.heap.size,w.heap.size+1,w.heap.size+1+1]++F) (.slice a1 (T.length+1) c1) (T++[((y:Int),(S.R.g y:Int)+1)])->gQ w3 ([w.heap.size,w.heap.size+1,w.heap.size+1+1]++F) zf uG zg y8 ze zh (aN S.A x (y:Int) k ((S.q:Int)+1))->ae [w.heap.size,w.heap.size+1,w.heap.size+1+1] w3 X->
     bE X F (.agg #[.int .i64 (S.R.sl.length:Int),.int .u32 (S.R.most:Int),.slice a1 (T.length+1) c1,.slice aG G.length cG,.slice (some ⟨zf,uG,none⟩) (aN S.A x (y:Int) k ((S.q:Int)+1)).hs.length zg,.slice (some ⟨y8,ze,none⟩) (aN S.A x (y:Int) k ((S.q:Int)+1)).cs.length zh,.int .u64 ((S.q:Int)+1)]) ⟨R',aN S.A x (y:Int) k ((S.q:Int)+1),S.q+1⟩/\ae [] w X):=λW w2 w3 X a1 c1 zf uG zg y8 ze zh hW h2 h3 hT1 hM1 hX=>by
    have hw:=(hW.trans h2).trans h3;refine⟨⟨.slice a1 (T.length+1) c1,.slice aG G.length cG,zf,uG,zg,y8,ze,zh,T++[((y:Int),(S.R.g y:Int)+1)],G,?_,(hT1.ag h3).fin1 hX,hG.fin hw hB0 hX,hM1.fin hX,Wi,by simp[hq]⟩,hw.joined hX (λx hx=>Β (hB0 x hx))⟩;rw[hlen,JP]
    rfl
   clear h hT hG hM nz ok hq F6 uB hbt hB0 h1 ht hk Wi hlen JP;generalize (S.R.g y:Int)+1=gy at *
   go_enter func47,ntmps47
   (go_upto_region 1 with(fail);refine aU (Gy w S.R.sl.length S.R.most (.slice aT T.length cT) (.slice aG G.length cG) (.slice (some ⟨gh,oh,none⟩) S.A.hs.length ch) (.slice (some ⟨gc,oc,none⟩) S.A.cs.length cc) S.q) {} ?_;rintro W ⟨hd,f4,f5,hW,hR,hRr⟩;have hl2:w.heap.size+1+1<W.heap.size:=Ε _ _ (hRr.cell 0 ω))
   have k1:=k1 W hW;have k2:=λw1 (hu:ae [] W w1)=>k2 w1 (hW.trans hu) (Ψ hl2 hu.size);obtain⟨d0,d1,d2,d3,d4,d5,d6⟩:=id hd
   go_upto_region 6 with (first
    |(((with_reducible refine k1.mono ?_));rintro e w1 ⟨rfl,hu1⟩;obtain⟨e0,e1,e2,e3,e4,e5,e6⟩:=hd.kept hu1 σ)
    | (((with_reducible refine (k2 _ hu1).mono ?_));rintro e w2 ⟨a1,c1,rfl,hT1,hu2⟩;(have jq:=hu1.trans hu2);(have hd2:=hd.kept jq σ);(have uj:=hR.upd jq σ);(have hRy:=hRr.upd jq σ)))
   have hw2:w.heap.size+1+1<w2.heap.size:=Ψ hl2 jq.size;have hn1:w.heap.size+1≠w2.heap.size:=ω;have hn2:w.heap.size≠w2.heap.size:=ω;have hn3:w.heap.size+1+1≠w2.heap.size:=ω;have hn4:=hn1.symm;have hn5:=hn2.symm;have hn6:=hn3.symm;have k3:=λY (hu:ae [] w2 Y)=>k3 Y ((hW.trans jq).trans hu) (Ψ hl2 (jq.trans hu).size)
   refine aU (λY=>D7 Y w.heap.size S.R.sl.length S.R.most (.slice aT T.length cT) (.slice aG G.length cG) (.slice (some ⟨gh,oh,none⟩) S.A.hs.length ch) (.slice (some ⟨gc,oc,none⟩) S.A.cs.length cc) S.q/\bH Y (w.heap.size+1) 39 7/\bH Y (w.heap.size+1+1) 67 6/\Y.cell? ⟨w2.heap.size,0,none⟩=some (.int .i64 S.R.sl.length)/\Y.cell? ⟨w2.heap.size,1,none⟩=some (.int .u32 S.R.most)/\Y.cell? ⟨w2.heap.size,2,none⟩=some (.slice a1 (T.length+1) c1)/\Y.cell? ⟨w2.heap.size,3,none⟩=some (.slice aG G.length cG)/\Y.cell? ⟨w2.heap.size+1,0,none⟩=some (.int .i64 (y:Int))/\Y.cell? ⟨w2.heap.size+1,1,none⟩=some (.int .u32 gy)/\ae [] w2 Y) ⟨hd2.kept (S:=[]) (((ae.refl _ _).alloc _).alloc _) σ,uj.upd (S:=[]) (((ae.refl _ _).alloc _).alloc _) σ,hRy.upd (S:=[]) (((ae.refl _ _).alloc _).alloc _) σ,γ,γ,γ,γ,γ,γ,((ae.refl _ _).alloc _).alloc _⟩ ?_
   clear hd d0 d1 d2 d3 d4 d5 d6 e0 e1 e2 e3 e4 e5 e6 hd2 uj hRy hR hRr f4 f5 k1 k2;rintro Y ⟨hd,hR,hRr,a0,a2,a3,a4,h0,h1,hY⟩;have k3:=k3 Y hY;obtain⟨d0,d1,d2,d3,d4,d5,d6⟩:=id hd
   go_upto_region 7 with((((with_reducible refine k3.mono ?_));rintro e w3 ⟨zf,uG,zg,y8,ze,zh,rfl,hM1,hu3⟩;(have hd3:=hd.kept hu3 σ);obtain⟨j0,j1,j2,j3,j4,j5,j6⟩:=id hd3;(have uj:=hR.upd hu3 σ);(have hRy:=hRr.upd hu3 σ);(obtain⟨t0,t1,t2,t3,t4,t5,t6,s0,s1,s2,s3,s4,s5,s6,hBl⟩:=seven uj);(obtain⟨u0,u1,u2,u3,u4,u5,v0,v1,v2,v3,v4,v5,hBm⟩:=oV hRy);(have b0:=hu3.was a0);(have b2:=hu3.was a2);(have b3:=hu3.was a3);(have b4:=hu3.was a4);(have b5:=hu3.was h0);(have b6:=hu3.was h1);(have hb1:=Ε _ _ j0);(have hb2:=Ε _ _ u0);(have hb3:=Ε _ _ b0);(have hb4:=Ε _ _ b5)))
   go_region_law (fail)
   all_goals
    go_wp2;refine bodyPost_ret (v:=.tuple #[.agg #[.int .i64 (S.R.sl.length:Int),.int .u32 (S.R.most:Int),.slice a1 (T.length+1) c1,.slice aG G.length cG,.slice (some ⟨zf,uG,none⟩) (aN S.A x (y:Int) k ((S.q:Int)+1)).hs.length zg,.slice (some ⟨y8,ze,none⟩) (aN S.A x (y:Int) k ((S.q:Int)+1)).cs.length zh,.int .u64 ((S.q:Int)+1)],.agg #[.int .i64 0,.int .i64 0,.int .i64 (y:Int),.int .u32 gy,.int .i64 0,.int .i64 0]]) (by simp[results,results47,go_sem,t0,t1,t2,t3,t4,t5,t6,u0,u1,u2,u3,u4,u5,hBl,hb1,hb2]) rfl ?_
    refine⟨_,rfl,(HF.out _ _ _ _ _ _ _ _ _ _ _ _ hW jq (hY.trans hu3) hT1 hM1 ?_).1,(HF.out _ _ _ _ _ _ _ _ _ _ _ _ hW jq (hY.trans hu3) hT1 hM1 ?_).2⟩
    all_goals
     refine ae.drew (ae.alloc ?_ _)
     iterate 13 (refine ae.setCell ?_ (Α σ) _)
     exact ae.refl _ _
 .rw[Γ h1];have h1:aW S.A x=false:=by simpa using h1
  rw[h1] at k1;dsimp only;unfold ic at k1;have HF:=χ (Gl h);clear h hT hG hM nz ok hq F6 uB hbt hB0 h1 k2
  go_enter func47,ntmps47
  (go_upto_region 1 with(fail);refine aU (Gy w S.R.sl.length S.R.most (.slice aT T.length cT) (.slice aG G.length cG) (.slice (some ⟨gh,oh,none⟩) S.A.hs.length ch) (.slice (some ⟨gc,oc,none⟩) S.A.cs.length cc) S.q) {} ?_;rintro W ⟨hd,f4,f5,hW,hR,hRr⟩;have hl2:w.heap.size+1+1<W.heap.size:=Ε _ _ (hRr.cell 0 ω))
  have k1:=k1 W hW;obtain⟨d0,d1,d2,d3,d4,d5,d6⟩:=id hd
  go_wp2_with ((((with_reducible refine k1.mono ?_));rintro e w1 ⟨rfl,hu1⟩;obtain⟨e0,e1,e2,e3,e4,e5,e6⟩:=hd.kept hu1 σ;(have uj:=hR.upd hu1 σ);(have hRy:=hRr.upd hu1 σ);(obtain⟨t0,t1,t2,t3,t4,t5,t6,s0,s1,s2,s3,s4,s5,s6,hBl⟩:=seven uj);(obtain⟨u0,u1,u2,u3,u4,u5,v0,v1,v2,v3,v4,v5,hBm⟩:=oV hRy)))
  (refine bodyPost_ret (v:=.tuple #[.agg #[.int .i64 (S.R.sl.length:Int),.int .u32 (S.R.most:Int),.slice aT T.length cT,.slice aG G.length cG,.slice (some ⟨gh,oh,none⟩) S.A.hs.length ch,.slice (some ⟨gc,oc,none⟩) S.A.cs.length cc,.int .u64 (S.q:Int)],.agg #[.int .i64 171,.int .i64 0,.int .i64 0,.int .u32 0,.int .i64 0,.int .i64 0]]) (by simp[results,results47,go_sem,t0,t1,t2,t3,t4,t5,t6,u0,u1,u2,u3,u4,u5]) rfl ?_;refine⟨_,rfl,(HF.out _ _ _ hW hu1 ?_).1,(HF.out _ _ _ hW hu1 ?_).2⟩<;>((iterate 13 (refine ae.setCell ?_ (Α σ) _));exact ae.refl _ _))
end
def MJ(R:AR)(y:Nat):(iB R y).sl.length=R.sl.length/\(iB R y).most=R.most:=by
 unfold iB AR.put;simp
def Z6.af1{W e:World}{S:List Nat}{b:Nat}{f g i:Int}{j k l m:Value}(h:D7 W b f g j k l m i)(d:Z6 W b)(a:ae S W e)(c:b∉S):D7 e b f g j k l m i/\Z6 e b:=
 ⟨h.kept a c,⟨a.ay h.c0 c d.f0,a.ay h.c1 c d.f1,a.ay h.c2 c d.f2,a.ay h.c3 c d.f3,a.ay h.c4 c d.f4,a.ay h.c5 c d.f5⟩⟩
section
variable{w:World}{F:List Nat}{v:Value}{S:St}
def NH{W:World}{vT vG:Value}{c m:Int}{q:Value}{l:List Hd}(h:Calls prog 98 #[.agg #[c,.int .u32 m,vT,vG],q] W λe w'=>∃v',e=.returned (.tuple #[.agg #[c,.int .u32 m,vT,v'],(0:Int)])/\kY w' F v' l/\ae [] W w'):
  Calls prog 98 #[.agg #[c,.int .u32 m,vT,vG],q] W λe w'=>∃a k,e=.returned (.tuple #[.agg #[c,.int .u32 m,vT,.slice a l.length k],(0:Int)])/\kY w' F (.slice a l.length k) l/\ae [] W w':=by
 refine h.mono ?_;rintro e w' ⟨v',rfl,b,d⟩;obtain⟨a,c,rfl, -, -⟩:=b.open;exact⟨a,c,rfl,b,d⟩
theorem Er(h:bE w F v S)(ok:S.Ok)(hF:∀x,x∈F->x<w.heap.size)(uB:S.q<=1000)(y:Nat)(hv:S.R.v y=true):
  Calls prog 80 #[v,.agg #[.int .i64 (y:Int),.int .u32 (S.R.g y:Int)]] w λe w'=>∃v',e=.returned v'/\bE w' F v' ⟨iB S.R y,aS S.A (y:Int),S.q⟩/\ae [] w w':=by
 obtain⟨aT,aG,cT,cG,gh,oh,ch,gc,oc,cc,T,G,rfl,hT,hG,hM,nz,hq⟩:=h.open;have F6:=nz.lens;have hB0:∀b,b∈[w.heap.size,w.heap.size+1,w.heap.size+1+1]->w.heap.size<=b:=λb hb=>by simp at hb;omega
 have k1:=λW (hW:ae [] w W) (hl:w.heap.size+1+1<W.heap.size)=>xZ (Q9 (⟨gh,oh,ch,gc,oc,cc,rfl,hM.beside hW hB0⟩:gM W ([w.heap.size,w.heap.size+1,w.heap.size+1+1]++F) (ic gh oh ch gc oc cc S.A) S.A) ok.1 (Kg hF hW hl) (y:Int))
 have k2:=λW Z (hW:ae [] w W) (hl:w.heap.size+1+1<W.heap.size) (hZ:ae [w.heap.size,w.heap.size+1,w.heap.size+1+1] W Z)=>NH (NM ((hT.beside hW hB0).fresh (hZ.mono (λx hx=>τ.2 (Α hx))) (λg hg=>Α hg)) ((hG.beside hW hB0).fresh (hZ.mono (λx hx=>τ.2 (Α hx))) (λg hg=>Α hg)) ω ω (λx hx=>Ψ (Kg hF hW hl x hx) hZ.size) (S.R.sl.length:Int) (S.R.most:Int) (y:Int) (S.R.g y:Int) (by rw[nz.live ok.2.1];exact yK hv));unfold ic at k1;simp only[υ,Ω,List.length_nil,ϓ] at k2;have Wi:=nz.give ok.2.1 hv;obtain⟨hlen,JP⟩:=MJ S.R y
 have HF:Hid (∀ (W w1 w2 X Z:World) (a1:Option Addr) (c1 zf uG zg y8 ze zh:Nat),ae [] w W->ae [] W w1->ae [w.heap.size,w.heap.size+1,w.heap.size+1+1] w1 Z->ae [] Z w2->kY w2 ([w.heap.size,w.heap.size+1,w.heap.size+1+1]++F) (.slice a1 (G.length+1) c1) (G++[((y:Int),(S.R.g y:Int))])->gQ w1 ([w.heap.size,w.heap.size+1,w.heap.size+1+1]++F) zf uG zg y8 ze zh (aS S.A (y:Int))->ae [w.heap.size,w.heap.size+1,w.heap.size+1+1] w2 X->
   bE X F (.agg #[.int .i64 (S.R.sl.length:Int),.int .u32 (S.R.most:Int),.slice aT T.length cT,.slice a1 (G.length+1) c1,.slice (some ⟨zf,uG,none⟩) (aS S.A (y:Int)).hs.length zg,.slice (some ⟨y8,ze,none⟩) (aS S.A (y:Int)).cs.length zh,.int .u64 (S.q:Int)]) ⟨iB S.R y,aS S.A (y:Int),S.q⟩/\ae [] w X):=λW w1 w2 X Z a1 c1 zf uG zg y8 ze zh hW h1 hZ h2 hG1 hM1 hX=>by
  have hw:=hW.trans h1;have hzx:ae [w.heap.size,w.heap.size+1,w.heap.size+1+1] w1 X:=(hZ.then h2).trans hX;refine⟨⟨.slice aT T.length cT,.slice a1 (G.length+1) c1,zf,uG,zg,y8,ze,zh,T,G++[((y:Int),(S.R.g y:Int))],?_,hT.fin hw hB0 hzx,hG1.fin1 hX,hM1.fin hzx,Wi,hq⟩,hw.joined hzx (λx hx=>Β (hB0 x hx))⟩;rw[hlen,JP]
 clear h hT hG hM nz ok hq F6 uB hB0 Wi hlen JP;generalize (S.R.g y:Int)=gy at *
 go_enter func80,ntmps80
 go_upto_region 1 with(fail)
 refine aU (λW=>D7 W w.heap.size S.R.sl.length S.R.most (.slice aT T.length cT) (.slice aG G.length cG) (.slice (some ⟨gh,oh,none⟩) S.A.hs.length ch) (.slice (some ⟨gc,oc,none⟩) S.A.cs.length cc) S.q/\Z6 W w.heap.size/\Q2 W (w.heap.size+1) y gy/\ae [] w W/\bH W (w.heap.size+1+1) 39 7) ⟨{},{},{},β,(by have h:=fE ((w.alloc (.cells #[.int .i64 S.R.sl.length,.int .u32 S.R.most,.slice aT T.length cT,.slice aG G.length cG,.slice (some ⟨gh,oh,none⟩) S.A.hs.length ch,.slice (some ⟨gc,oc,none⟩) S.A.cs.length cc,.int .u64 S.q] 39)).alloc (.cells #[.int .i64 (y:Int),.int .u32 gy] 46)) [Value.int .i64 0,.int .u32 0,.slice none 0 0,.slice none 0 0,.slice none 0 0,.slice none 0 0,.int .u64 0] 39;rw[Κ,Κ] at h;exact h)⟩ ?_
 rintro W ⟨hd,hz,hqq,hW,hR⟩;have hl2:w.heap.size+1+1<W.heap.size:=Ε _ _ (hR.cell 0 ω);obtain⟨d0,d1,d2,d3,d4,d5,d6⟩:=id hd;obtain⟨z0,z1,z2,z3,z4,z5⟩:=hz;obtain⟨q0,q1⟩:=id hqq;have k1:=k1 W hW hl2;have k2:=λw1 (hu:ae [] W w1) Z=>k2 w1 Z (hW.trans hu) (Ψ hl2 hu.size)
 go_wp2_with (first
  |(((with_reducible refine k1.mono ?_));rintro e w1 ⟨zf,uG,zg,y8,ze,zh,rfl,hM1,hu1⟩;(have hd1:=hd.kept hu1 σ);obtain⟨e0,e1,e2,e3,e4,e5,e6⟩:=id hd1;obtain⟨x0,x1⟩:=hqq.kept hu1 σ;(have y0:=hu1.ay d0 σ z0);(have y1:=hu1.ay d1 σ z1);(have y2:=hu1.ay d2 σ z2);(have y3:=hu1.ay d3 σ z3);(have y4:=hu1.ay d4 σ z4);(have y5:=hu1.ay d5 σ z5);(have uj:=hR.upd hu1 σ);(have hZ:∀p q,ae [w.heap.size,w.heap.size+1,w.heap.size+1+1] w1 ((w1.setCell ⟨w.heap.size,4,none⟩ p).setCell ⟨w.heap.size,5,none⟩ q):=λp q=>((ae.refl _ _).setCell (Α σ) p).setCell (Α σ) q);(have hZ1:∀p q,ae [w.heap.size] w1 ((w1.setCell ⟨w.heap.size,4,none⟩ p).setCell ⟨w.heap.size,5,none⟩ q):=λp q=>((ae.refl _ _).setCell (Α σ) p).setCell (Α σ) q))
  | (((with_reducible refine (k2 _ hu1 _ (hZ _ _)).mono ?_));rintro e w2 ⟨a1,c1,rfl,hG1,hu2⟩;obtain ⟨⟨g0,g1,g2,g3,g4,g5,g6⟩,⟨n0,n1,n2,n3,n4,n5⟩⟩:D7 w2 w.heap.size S.R.sl.length S.R.most (.slice aT T.length cT) (.slice aG G.length cG) (.slice (some ⟨zf,uG,none⟩) (aS S.A (y:Int)).hs.length zg) (.slice (some ⟨y8,ze,none⟩) (aS S.A (y:Int)).cs.length zh) S.q/\Z6 w2 w.heap.size:=(by refine Z6.af1 ?_ ?_ hu2 σ;exact {};exact {});(have hRy:=(uj.upd (hZ1 (.slice (some ⟨zf,uG,none⟩) (aS S.A (y:Int)).hs.length zg) (.slice (some ⟨y8,ze,none⟩) (aS S.A (y:Int)).cs.length zh)) ζ).upd hu2 σ);(obtain ⟨t0,t1,t2,t3,t4,t5,t6,s0,s1,s2,s3,s4,s5,s6,hBl⟩:=seven hRy)))
 refine bodyPost_ret (v:=.agg #[.int .i64 (S.R.sl.length:Int),.int .u32 (S.R.most:Int),.slice aT T.length cT,.slice a1 (G.length+1) c1,.slice (some ⟨zf,uG,none⟩) (aS S.A (y:Int)).hs.length zg,.slice (some ⟨y8,ze,none⟩) (aS S.A (y:Int)).cs.length zh,.int .u64 (S.q:Int)]) (by simp[results,results80,go_sem,t0,t1,t2,t3,t4,t5,t6]) rfl ?_;refine⟨_,rfl,(HF.out _ _ _ _ _ _ _ _ _ _ _ _ _ hW hu1 (hZ _ _) hu2 hG1 hM1 ?_).1,(HF.out _ _ _ _ _ _ _ _ _ _ _ _ _ hW hu1 (hZ _ _) hu2 hG1 hM1 ?_).2⟩
 all_goals
  iterate 11 (refine ae.setCell ?_ (Α σ) _)
  exact ae.refl _ _
end
section
variable{w:World}{F:List Nat}{v:Value}{S:St}
def Ps(h:bE w F v S){Y X:World}(c:ae [] w Y)(d:ae [w.heap.size,w.heap.size+1,w.heap.size+1+1] Y X):bE X ([w.heap.size,w.heap.size+1,w.heap.size+1+1]++F) v S:=
 (h.fresh (F':=[w.heap.size,w.heap.size+1,w.heap.size+1+1]++F) (c.mono σ) (λg a=>by rcases τ.1 a with h|h;exact Β (by simp at h;omega);exact Α h)).fresh (d.mono (λx b=>τ.2 (Α b))) (λg a=>Α a)
def Xj{Y c a X:World}{v':Value}{d:St}(i:ae [] w Y)(j:ae [w.heap.size,w.heap.size+1,w.heap.size+1+1] Y c)(k:ae [] c a)(h:bE a ([w.heap.size,w.heap.size+1,w.heap.size+1+1]++F) v' d)(e:ae [w.heap.size,w.heap.size+1,w.heap.size+1+1] a X):bE X F v' d/\ae [] w X:=
 ⟨h.fresh (e.mono (λx b=>τ.2 (Α b))) (λg f=>Α (τ.2 (Β f))),i.joined ((j.then k).trans e) (λx b=>Β (by grind))⟩
def abq(h:bE w F v S)(A:S.Ok)(B:∀x,x∈F->x<w.heap.size)(C:S.q<=1000)(y:Nat)(D:S.R.v y=true){Y X:World}(s:ae [] w Y)(E:w.heap.size+1+1<Y.heap.size)(t:ae [w.heap.size,w.heap.size+1,w.heap.size+1+1] Y X):
  Calls prog 80 #[v,.agg #[(y:Int),.int .u32 (S.R.g y:Int)]] X λe w'=>∃a b c d f g i j k l m n o p q,e=.returned (.agg #[(a:Int),.int .u32 b,.slice d f g,.slice i j k,.slice l m n,.slice o p q,.int .u64 c])/\bE w' ([w.heap.size,w.heap.size+1,w.heap.size+1+1]++F) (.agg #[(a:Int),.int .u32 b,.slice d f g,.slice i j k,.slice l m n,.slice o p q,.int .u64 c]) ⟨iB S.R y,aS S.A (y:Int),S.q⟩/\ae [] X w':=by
 refine(Er (Ps h s t) A (λx z=>Ψ (Kg B s E x z) t.size) C y D).mono ?_;rintro e w' ⟨v',rfl,r,u⟩;obtain⟨a,b,c,d,f,g,i,j,k,l,m,n,o,p,q,rfl⟩:=r.agg;exact⟨_,_,_,_,_,_,_,_,_,_,_,_,_,_,_,rfl,r,u⟩
def Rh(h:bE w F v S)(D:S.Ok)(hF:∀x,x∈F->x<w.heap.size)(uB:S.q<=1000)(x:Int):
  Calls prog 49 #[v,x] w λe w'=>∃v',e=.returned (.tuple #[v',(lD S x).2.v])/\bE w' F v' (lD S x).1/\ae [] w w':=by
 have c:=λW (f:ae [] w W)=>Ey (h.ag f) D uB x;have j:=N8 D.1 x;have k:∀m,dB S.A x=some m->S.R.v m=true:=λm hm=>(D.2.2.2 m).trans (jU hm).2.2.2;have q:=λy hv Y X (p:ae [] w Y) hl (hX:ae [w.heap.size,w.heap.size+1,w.heap.size+1+1] Y X)=>abq h D hF uB y hv p hl hX;have HF:=χ (Gl h);obtain⟨H,I,J,K,L,M,N,O,P,Q,T,G,rfl,hT,hG,hM,nz,hq⟩:=h.open;rw[OJ] at c;rw[ZW];unfold lW xR at c;unfold lD xR;clear h hT hG hM nz D hq hF uB;cases s:dB S.A x with
 |none=>
  rw[s] at c;dsimp only at c ⊢;have hE:(nO S.A x != 0)=true:=by
   rcases j with⟨_,_,e⟩|⟨_,_,e⟩|⟨_,m,e⟩
   .rw[e];rfl
   .rw[e];rfl
   .rw[s] at e;cases e
  generalize nO S.A x=er at *;clear j k s q
  go_enter func49,ntmps49
  (go_upto_region 1 with(fail);refine aU (Gy w S.R.sl.length S.R.most (.slice H T.length J) (.slice I G.length K) (.slice (some ⟨L,M,none⟩) S.A.hs.length N) (.slice (some ⟨O,P,none⟩) S.A.cs.length Q) S.q) {} ?_;rintro W ⟨g,f4,f5,f,o,b⟩;have l:w.heap.size+1+1<W.heap.size:=Ε _ _ (b.cell 0 ω))
  have c:=c W f;obtain⟨R,U,Z,d3,d4,d5,d6⟩:=id g
  go_upto_region 3 with((((with_reducible refine c.mono ?_));rintro e E ⟨rfl,a⟩;obtain⟨e0,e1,e2,e3,e4,e5,e6⟩:=g.kept a σ;(have r:=o.upd a σ);(have d:=b.upd a σ);(obtain⟨t0,t1,t2,t3,t4,t5,t6,s0,s1,s2,s3,s4,s5,s6,i⟩:=seven r);(obtain⟨u,u1,u2,u3,u4,u5,v0,v1,v2,v3,v4,v5,hBm⟩:=oV d);(have hb1:=Ε _ _ e0);(have n:=Ε _ _ u)))
  go_region_law (fail)
  all_goals
   go_wp2;refine bodyPost_ret (v:=.tuple #[.agg #[(S.R.sl.length:Int),.int .u32 (S.R.most:Int),.slice H T.length J,.slice I G.length K,.slice (some ⟨L,M,none⟩) S.A.hs.length N,.slice (some ⟨O,P,none⟩) S.A.cs.length Q,.int .u64 (S.q:Int)],.agg #[(er:Int),(0:Int),(0:Int),.int .u32 0,(0:Int),(0:Int)]]) (by simp[results,results49,go_sem,t0,t1,t2,t3,t4,t5,t6,u,u1,u2,u3,u4,u5,i,hb1,n]) rfl ?_;refine⟨_,rfl,(HF.out _ _ _ f a ?_).1,(HF.out _ _ _ f a ?_).2⟩
   all_goals
    refine ae.drew (ae.alloc ?_ _)
    iterate 13 (refine ae.setCell ?_ (Α σ) _)
    exact ae.refl _ _
 |some m=>
  have q:=q m (k m s);rw[s] at c;dsimp only at c ⊢;clear j k s;generalize (S.A.c m).k=C at *;generalize (S.R.g m:Int)=gm at *
  go_enter func49,ntmps49
  (go_upto_region 1 with(fail);refine aU (Gy w S.R.sl.length S.R.most (.slice H T.length J) (.slice I G.length K) (.slice (some ⟨L,M,none⟩) S.A.hs.length N) (.slice (some ⟨O,P,none⟩) S.A.cs.length Q) S.q) {} ?_;rintro W ⟨g,f4,f5,f,o,b⟩;have l:w.heap.size+1+1<W.heap.size:=Ε _ _ (b.cell 0 ω))
  have c:=c W f;obtain⟨R,U,Z,d3,d4,d5,d6⟩:=id g
  go_upto_region 4 with((((with_reducible refine c.mono ?_));rintro e E ⟨rfl,a⟩;(have z:=g.kept a σ);(have r:=o.upd a σ);(have d:=b.upd a σ)))
  refine aU (λY=>D7 Y w.heap.size S.R.sl.length S.R.most (.slice H T.length J) (.slice I G.length K) (.slice (some ⟨L,M,none⟩) S.A.hs.length N) (.slice (some ⟨O,P,none⟩) S.A.cs.length Q) S.q/\bH Y (w.heap.size+1) 39 7/\bH Y (w.heap.size+1+1) 67 6/\Q6 Y E.heap.size 0 0 m gm C 0/\ae [] E Y) ⟨z.kept (S:=[]) ((ae.refl _ _).alloc _) σ,r.upd (S:=[]) ((ae.refl _ _).alloc _) σ,d.upd (S:=[]) ((ae.refl _ _).alloc _) σ,{},(ae.refl _ _).alloc _⟩ ?_;have hw1:w.heap.size+1+1<E.heap.size:=Ψ l a.size;have HW:=χ (f.trans a)
  clear g R U Z d3 d4 d5 d6 z r d o b f4 f5 c f a l;rintro Y ⟨g,o,b,t,p⟩;have hl3:w.heap.size+1+1<Y.heap.size:=Ψ hw1 p.size;have q:=λX=>q Y X (HW.out.trans p) hl3;have A:ae [w.heap.size,w.heap.size+1,w.heap.size+1+1] Y Y:=ae.refl _ _;obtain⟨R,U,Z,d3,d4,d5,d6⟩:=id g;obtain⟨q0,q1,q2,q3,q4,q5⟩:=id t
  go_region_law
   (first
    | (go_simp;(with_reducible refine (q _ β).mono ?_);rintro e w5 ⟨x0,x1,x6,a2,n2,c2,a3,n3,c3,a4,n4,c4,a5,n5,c5,rfl,hD,dD⟩;(have B:ae [] Y w5:=ae.trans β dD);obtain ⟨i0,i1,i2,i3,i4,i5⟩:=t.kept B σ;(have r:=o.upd B σ);(have d:=b.upd B σ);(obtain ⟨t0,t1,t2,t3,t4,t5,t6,s0,s1,s2,s3,s4,s5,s6,i⟩:=seven r);(obtain ⟨u,u1,u2,u3,u4,u5,v0,v1,v2,v3,v4,v5,hBm⟩:=oV d);(have n:=Ε _ _ u)))
  all_goals
   go_wp2;refine bodyPost_ret (v:=.tuple #[.agg #[(x0:Int),.int .u32 x1,.slice a2 n2 c2,.slice a3 n3 c3,.slice a4 n4 c4,.slice a5 n5 c5,.int .u64 x6],.agg #[(0:Int),(0:Int),(m:Int),.int .u32 gm,(C:Int),(0:Int)]]) (by simp[results,results49,go_sem,t0,t1,t2,t3,t4,t5,t6,u,u1,u2,u3,u4,u5,i,n]) rfl ?_;refine⟨_,rfl,(Xj (HW.out.trans p) A B hD ?_).1,(Xj (HW.out.trans p) A B hD ?_).2⟩
   all_goals
    iterate 13 (refine ae.setCell ?_ (Α σ) _)
    exact ae.refl _ _
end
section
variable{w:World}{F:List Nat}{v:Value}{S:St}
def J9(h:bE w F v S):∀W a X,ae [] w W->ae [] W a->ae [w.heap.size,w.heap.size+1,w.heap.size+1+1,w.heap.size+1+1+1] a X->bE X F v S/\ae [] w X:=λW a X e f g=>by
 have d:∀b,b∈[w.heap.size,w.heap.size+1,w.heap.size+1+1,w.heap.size+1+1+1]->w.heap.size<=b:=λb i=>by simp at i;omega
 have c:=(e.trans f).joined g (λx j=>Β (d x j));exact⟨h.ag c,c⟩
def Ol{Y a X:World}{v':Value}{c:St}(f:ae [] w Y)(i:ae [w.heap.size+1+1,w.heap.size+1+1+1] Y a)(h:bE a ([w.heap.size,w.heap.size+1,w.heap.size+1+1,w.heap.size+1+1+1]++F) v' c)(d:ae [w.heap.size,w.heap.size+1,w.heap.size+1+1,w.heap.size+1+1+1] a X):bE X F v' c/\ae [] w X:=
 ⟨h.fresh (d.mono (λx b=>τ.2 (Α b))) (λg e=>Α (τ.2 (Β e))),f.joined ((i.mono σ).trans d) (λx b=>Β (by grind))⟩
def Xd{W:World}(b:∀x,x∈F->x<w.heap.size)(c:ae [] w W)(d:w.heap.size+1+1+1<W.heap.size):∀x,x∈[w.heap.size,w.heap.size+1,w.heap.size+1+1,w.heap.size+1+1+1]++F->x<W.heap.size:=λx a=>by
 rcases τ.1 a with a|a
 .simp at a;omega
 .exact Ψ (b x a) c.size
def ZN(h:bE w F v S)(D:S.Ok)(E:∀x,x∈F->x<w.heap.size)(G:S.q<=1000)(y:Nat)(H:S.R.v y=true){Y X:World}(z:ae [] w Y)(I:w.heap.size+1+1+1<Y.heap.size)(A:ae [w.heap.size+1+1,w.heap.size+1+1+1] Y X):
  Calls prog 80 #[v,.agg #[(y:Int),.int .u32 (S.R.g y:Int)]] X λe w'=>∃a b c d f i j k l m n o p q r,e=.returned (.agg #[(a:Int),.int .u32 b,.slice d f i,.slice j k l,.slice m n o,.slice p q r,.int .u64 c])/\bE w' ([w.heap.size,w.heap.size+1,w.heap.size+1+1,w.heap.size+1+1+1]++F) (.agg #[(a:Int),.int .u32 b,.slice d f i,.slice j k l,.slice m n o,.slice p q r,.int .u64 c]) ⟨iB S.R y,aS S.A (y:Int),S.q⟩/\ae [] X w':=by
 have C:bE Y ([w.heap.size,w.heap.size+1,w.heap.size+1+1,w.heap.size+1+1+1]++F) v S:=h.fresh (z.mono σ) (λg s=>by rcases τ.1 s with h|h;exact Β (by simp at h;omega);exact Α h);refine(Er (C.fresh (F':=[w.heap.size,w.heap.size+1,w.heap.size+1+1,w.heap.size+1+1+1]++F) (A.mono (λx t=>τ.2 (Α (by simp at t ⊢;omega)))) (λg s=>Α s)) D (λx t=>Ψ (Xd E z I x t) A.size) G y H).mono ?_;rintro e w' ⟨v',rfl,u,B⟩;obtain⟨a,b,c,d,f,i,j,k,l,m,n,o,p,q,r,rfl⟩:=u.agg;exact⟨_,_,_,_,_,_,_,_,_,_,_,_,_,_,_,rfl,u,B⟩
def RJ(h:bE w F v S)(B:S.Ok)(hF:∀x,x∈F->x<w.heap.size)(uB:S.q<=1000)(x g:Int):
  Calls prog 51 #[v,.agg #[x,.int .u32 g]] w λe w'=>∃v',e=.returned (.tuple #[v',(ow S x g).2.v])/\bE w' F v' (ow S x g).1/\ae [] w w':=by
 have q:=λy l Y X (hY:ae [] w Y) p (hX:ae [w.heap.size+1+1,w.heap.size+1+1+1] Y X)=>ZN h B hF uB y l hY p hX;have HF:=χ (J9 h);obtain⟨D,E,H,I,J,K,L,k,s,M,T,G,rfl,hT,hG,N,O,hq⟩:=h.open;have F6:=O.lens;have j:=λW (c:ae [] w W)=>pU (hT.ag c) (hG.ag c) ω ω (S.R.sl.length:Int) (S.R.most:Int) x g;rw[O.live B.2.1] at j;have b:∀y:Nat,x=y->S.R.v y=true->y<S.A.cs.length/\w.cell? ⟨k,s+y*3+1,none⟩=some (.int .i64 (S.A.c y).k):=λy e l=>by
  have hy:y<S.A.cs.length:=by have:=AR.Dq l;have:=B.2.2.1;omega
  exact⟨hy,N.c1 y hy⟩
 have m:=λ(hh:gL S.R x g=true)=>nA hh;rw[Za];unfold ow xR;have hgl:=N.lt.2;have hg1:k≠w.heap.size+1+1:=ω;have hg2:k≠w.heap.size+1+1+1:=ω;clear h hT hG N O B hq hF uB F6;cases p:gL S.R x g with
 |false=>
  rw[p] at j;rw[Γ σ];dsimp only;clear b m p q
  go_enter func51,ntmps51
  (go_upto_region 1 with(fail);refine aU (TJ w S.R.sl.length S.R.most (.slice D T.length H) (.slice E G.length I) (.slice (some ⟨J,K,none⟩) S.A.hs.length L) (.slice (some ⟨k,s,none⟩) S.A.cs.length M) S.q (x) (g)) {} ?_;rintro W ⟨r,f, -, -,c,C,d⟩;have u:w.heap.size+1+1+1<W.heap.size:=Ε _ _ (d.cell 0 ω);obtain⟨P,Q,R,U,Z,d5,d6⟩:=id r;obtain⟨q0,q1⟩:=id f)
  have j:=j W c
  go_wp2_with ((((with_reducible refine j.mono ?_));rintro e i ⟨rfl,a⟩;obtain⟨e0,e1,e2,e3,e4,e5,e6⟩:=r.kept a σ;(have uj:=C.upd a σ);(have n:=d.upd a σ);(obtain⟨t0,t1,t2,t3,t4,t5,t6,s0,s1,s2,s3,s4,s5,s6,t⟩:=seven uj);(obtain⟨A,u1,u2,u3,u4,u5,v0,v1,v2,v3,v4,v5,hBm⟩:=oV n)))
  refine bodyPost_ret (v:=.tuple #[.agg #[(S.R.sl.length:Int),.int .u32 (S.R.most:Int),.slice D T.length H,.slice E G.length I,.slice (some ⟨J,K,none⟩) S.A.hs.length L,.slice (some ⟨k,s,none⟩) S.A.cs.length M,.int .u64 (S.q:Int)],.agg #[(33:Int),(0:Int),(0:Int),.int .u32 0,(0:Int),(0:Int)]]) (by simp[results,results51,go_sem,t0,t1,t2,t3,t4,t5,t6,A,u1,u2,u3,u4,u5]) rfl ?_;refine⟨_,rfl,(HF.out _ _ _ c a ?_).1,(HF.out _ _ _ c a ?_).2⟩
  all_goals
   iterate 13 (refine ae.setCell ?_ (Α σ) _)
   exact ae.refl _ _
 |true=>
  rw[p] at j;rw[Δ rfl];dsimp only;obtain⟨y,rfl,rfl,l⟩:=m p;obtain⟨hy,hc⟩:=b y rfl l;rw[π];have XN:(y:Int)<(S.A.cs.length:Int):=ω;have q:=q y l;clear b m p l;generalize (S.A.c y).k=z at *;generalize (S.R.g y:Int)=gm at *
  go_enter func51,ntmps51
  (go_upto_region 1 with(fail);refine aU (TJ w S.R.sl.length S.R.most (.slice D T.length H) (.slice E G.length I) (.slice (some ⟨J,K,none⟩) S.A.hs.length L) (.slice (some ⟨k,s,none⟩) S.A.cs.length M) S.q (y) (gm)) {} ?_;rintro W ⟨r,f, -, -,c,C,d⟩;have u:w.heap.size+1+1+1<W.heap.size:=Ε _ _ (d.cell 0 ω);obtain⟨P,Q,R,U,Z,d5,d6⟩:=id r;obtain⟨q0,q1⟩:=id f)
  have j:=j W c
  go_upto_region 3 with((((with_reducible refine j.mono ?_));rintro e i ⟨rfl,a⟩;(have hd1:=r.kept a σ);(have hq1:=f.kept a σ);(have uj:=C.upd a σ);(have n:=d.upd a σ)))
  have hw1:w.heap.size+1+1+1<i.heap.size:=Ψ u a.size;have HW:=χ (c.trans a);have hcc:=(c.trans a).was hc;have q:=λX=>q i X (c.trans a) hw1;clear P Q R U Z d5 d6 q0 q1;obtain⟨P,Q,R,U,Z,d5,d6⟩:=hd1.rules (S:=[w.heap.size+1+1,w.heap.size+1+1+1]) ζ;obtain⟨q0,q1⟩:=hq1.rules (S:=[w.heap.size+1+1,w.heap.size+1+1+1]) σ;have hcr:∀X,ae [w.heap.size+1+1,w.heap.size+1+1+1] i X->X.cell? ⟨k,s+y*3+1,none⟩=some ((z:Int):V):=λX hX=>hX.kept hcc (by simp;exact⟨hg1,hg2⟩);have acm:ae [w.heap.size+1+1,w.heap.size+1+1+1] i i:=ae.refl _ _
  go_region_held3 (ae [w.heap.size+1+1,w.heap.size+1+1+1] i) (repeat(first|(with_reducible assumption)|(with_reducible exact ae.refl _ _)|(with_reducible refine ae.drew ?_)|(with_reducible refine ae.alloc ?_ _)|(with_reducible refine ae.setCell ?_ ?_ _)|focus(left;simp;done)|focus(right;simp;done)|focus(right;simp;omega)))
   (first
    | (((with_reducible refine (q _ (by (repeat (first|(with_reducible assumption)|(with_reducible exact ae.refl _ _)|(with_reducible refine ae.drew ?_)|(with_reducible refine ae.alloc ?_ _)|(with_reducible refine ae.setCell ?_ ?_ _)|focus (left;simp;done)|focus (right;simp;done)|focus (right;simp;omega))))).mono ?_));rintro e w5 ⟨x0,x1,x6,a2,n2,c2,a3,n3,c3,a4,n4,c4,a5,n5,c5,rfl,hD,dD⟩;(have o:ae [] i w5:=ae.trans (by (repeat (first|(with_reducible assumption)|(with_reducible exact ae.refl _ _)|(with_reducible refine ae.drew ?_)|(with_reducible refine ae.alloc ?_ _)|(with_reducible refine ae.setCell ?_ ?_ _)|focus (left;simp;done)|focus (right;simp;done)|focus (right;simp;omega)))) dD);(have iD:ae [w.heap.size+1+1,w.heap.size+1+1+1] i w5:=o.mono σ);(have hRa:=uj.upd o σ);(have hRb:=n.upd o σ);(obtain ⟨t0,t1,t2,t3,t4,t5,t6,s0,s1,s2,s3,s4,s5,s6,t⟩:=seven hRa);(obtain ⟨A,u1,u2,u3,u4,u5,v0,v1,v2,v3,v4,v5,hBm⟩:=oV hRb);(have hb2:=Ε _ _ A)))
  all_goals
   go_wp2;refine bodyPost_ret (v:=.tuple #[.agg #[(x0:Int),.int .u32 x1,.slice a2 n2 c2,.slice a3 n3 c3,.slice a4 n4 c4,.slice a5 n5 c5,.int .u64 x6],.agg #[(0:Int),(0:Int),(0:Int),.int .u32 0,(z:Int),(0:Int)]]) (by simp[results,results51,go_sem,t0,t1,t2,t3,t4,t5,t6,A,u1,u2,u3,u4,u5,t,hb2]) rfl ?_;refine⟨_,rfl,(Ol HW.out iD hD ?_).1,(Ol HW.out iD hD ?_).2⟩
   all_goals
    iterate 13 (refine ae.setCell ?_ (Α σ) _)
    exact ae.refl _ _
end
section
variable{w:World}{F:List Nat}{v:Value}{S:St}
def Py(h:bE w F v S)(ok:S.Ok)(hF:∀x,x∈F->x<w.heap.size)(uB:S.q<=1000)(x g k:Int):
  Calls prog 50 #[v,.agg #[x,.int .u32 g],k] w λe w'=>∃v',e=.returned (.tuple #[v',(vg S x g k).2.v])/\bE w' F v' (vg S x g k).1/\ae [] w w':=by
 have R:=χ (J9 h);obtain⟨C,D,E,H,I,J,K,r,t,L,T,G,rfl,hT,hG,hM,nz,hq⟩:=h.open;have F6:=nz.lens;have o:=λW (c:ae [] w W)=>pU (hT.ag c) (hG.ag c) ω ω (S.R.sl.length:Int) (S.R.most:Int) x g;rw[nz.live ok.2.1] at o;have U:=λW (c:ae [] w W) (O:w.heap.size+1+1+1<W.heap.size) (s:Int)=>xZ (WO (⟨I,J,K,r,t,L,rfl,hM.beside (B:=[w.heap.size,w.heap.size+1,w.heap.size+1+1,w.heap.size+1+1+1]) c (λb hb=>by simp at hb;omega)⟩:gM W ([w.heap.size,w.heap.size+1,w.heap.size+1+1,w.heap.size+1+1+1]++F) (ic I J K r t L S.A) S.A) ok.1 (Xd hF c O) x k s);unfold ic at U
 have j:∀y:Nat,x=y->S.R.v y=true->y<S.A.cs.length/\w.cell? ⟨r,t+y*3+1,none⟩=some (.int .i64 (S.A.c y).k)/\w.cell? ⟨r,t+y*3+2,none⟩=some (.int .u64 (S.A.c y).s):=λy e hv=>by
  have hy:y<S.A.cs.length:=by have:=AR.Dq hv;have:=ok.2.2.1;omega
  exact⟨hy,hM.c1 y hy,hM.c2 y hy⟩
 have hlv:=λ(hh:gL S.R x g=true)=>nA hh;unfold vg xR Rp.v;have HD:=χ (ψ hT (ψ hG (ψ hM (ψ nz hq))));clear h hT hG hM nz ok hq hF uB F6;cases O:gL S.R x g with
 |false=>
  rw[O] at o;rw[Γ σ];dsimp only;clear j hlv O U HD
  go_enter func50,ntmps50
  (go_upto_region 1 with(fail);refine aU (TJ w S.R.sl.length S.R.most (.slice C T.length E) (.slice D G.length H) (.slice (some ⟨I,J,none⟩) S.A.hs.length K) (.slice (some ⟨r,t,none⟩) S.A.cs.length L) S.q (x) (g)) {} ?_;rintro W ⟨z,f,f4,f5,c,Z,d⟩;have hl2:w.heap.size+1+1+1<W.heap.size:=Ε _ _ (d.cell 0 ω);obtain⟨d0,d1,d2,d3,P,Q,d6⟩:=id z;obtain⟨q0,q1⟩:=id f)
  have o:=o W c
  go_wp2_with ((((with_reducible refine o.mono ?_));rintro e w1 ⟨rfl,a⟩;obtain⟨e0,e1,e2,e3,e4,e5,e6⟩:=z.kept a σ;(have uj:=Z.upd a σ);(have l:=d.upd a σ);(obtain⟨t0,t1,t2,t3,t4,t5,t6,s0,s1,s2,s3,s4,s5,s6,hBl⟩:=seven uj);(obtain⟨u0,u1,u2,u3,u4,u5,v0,v1,v2,v3,v4,v5,hBm⟩:=oV l)))
  (refine bodyPost_ret (v:=.tuple #[.agg #[(S.R.sl.length:Int),.int .u32 (S.R.most:Int),.slice C T.length E,.slice D G.length H,.slice (some ⟨I,J,none⟩) S.A.hs.length K,.slice (some ⟨r,t,none⟩) S.A.cs.length L,.int .u64 (S.q:Int)],.agg #[(33:Int),(0:Int),(0:Int),.int .u32 0,(0:Int),(0:Int)]]) (by simp[results,results50,go_sem,t0,t1,t2,t3,t4,t5,t6,u0,u1,u2,u3,u4,u5]) rfl ?_;refine⟨_,rfl,(R.out _ _ _ c a ?_).1,(R.out _ _ _ c a ?_).2⟩<;>((iterate 13 (refine ae.setCell ?_ (Α σ) _));exact ae.refl _ _))
 |true=>
  rw[O] at o;rw[Δ rfl];obtain⟨y,rfl,rfl,hv⟩:=hlv O;obtain⟨hy,M,N⟩:=j y rfl hv;rw[π];have XN:(y:Int)<(S.A.cs.length:Int):=ω;clear j hlv O hv;generalize (S.A.c y).k=u at *;generalize (S.A.c y).s=n at *;generalize (S.R.g y:Int)=gm at *;have U:=λW c O=>U W c O n
  by_cases hk:u<k
  .have hkD:decide (k > u)=true:=Ν hk;rw[Δ hk];dsimp only;clear U HD
   go_enter func50,ntmps50
   (go_upto_region 1 with(fail);refine aU (TJ w S.R.sl.length S.R.most (.slice C T.length E) (.slice D G.length H) (.slice (some ⟨I,J,none⟩) S.A.hs.length K) (.slice (some ⟨r,t,none⟩) S.A.cs.length L) S.q (y) (gm)) {} ?_;rintro W ⟨z,f,f4,f5,c,Z,d⟩;have hl2:w.heap.size+1+1+1<W.heap.size:=Ε _ _ (d.cell 0 ω);obtain⟨d0,d1,d2,d3,P,Q,d6⟩:=id z;obtain⟨q0,q1⟩:=id f)
   have o:=o W c
   go_upto_region 4 with((((with_reducible refine o.mono ?_));rintro e w1 ⟨rfl,a⟩;(have m:=z.kept a σ);(have q:=f.kept a σ);(have uj:=Z.upd a σ);(have l:=d.upd a σ);(have abR:=(c.trans a).was M);(have ZA:=(c.trans a).was N);obtain⟨e0,e1,e2,e3,e4,e5,e6⟩:=id m;obtain⟨p0,p1⟩:=id q))
   refine aU (λY=>D7 Y w.heap.size S.R.sl.length S.R.most (.slice C T.length E) (.slice D G.length H) (.slice (some ⟨I,J,none⟩) S.A.hs.length K) (.slice (some ⟨r,t,none⟩) S.A.cs.length L) S.q/\bH Y (w.heap.size+1+1) 39 7/\bH Y (w.heap.size+1+1+1) 67 6/\Y.cell? w1.heap.size=some ((u:Int):V)/\ae [] w1 Y) ⟨m.kept (S:=[]) β σ,uj.upd (S:=[]) β σ,l.upd (S:=[]) β σ,γ,β⟩ ?_;rintro Y ⟨A,acZ,acb,c8,hY⟩;have i:ae [] W Y:=a.trans hY;clear z m f q d0 d1 d2 d3 P Q d6 q0 q1 e0 e1 e2 e3 e4 e5 e6 p0 p1 uj l Z d f4 f5 o abR ZA M N a hY
   obtain⟨d0,d1,d2,d3,P,Q,d6⟩:=id A
   (obtain⟨t0,t1,t2,t3,t4,t5,t6,s0,s1,s2,s3,s4,s5,s6,hBl⟩:=seven acZ)
   (obtain⟨u0,u1,u2,u3,u4,u5,v0,v1,v2,v3,v4,v5,hBm⟩:=oV acb)
   go_wp2
   (refine bodyPost_ret (v:=.tuple #[.agg #[(S.R.sl.length:Int),.int .u32 (S.R.most:Int),.slice C T.length E,.slice D G.length H,.slice (some ⟨I,J,none⟩) S.A.hs.length K,.slice (some ⟨r,t,none⟩) S.A.cs.length L,.int .u64 (S.q:Int)],.agg #[(173:Int),(0:Int),(0:Int),.int .u32 0,(0:Int),(0:Int)]]) (by simp[results,results50,go_sem,t0,t1,t2,t3,t4,t5,t6,u0,u1,u2,u3,u4,u5]) rfl ?_;refine⟨_,rfl,(R.out _ _ _ c i ?_).1,(R.out _ _ _ c i ?_).2⟩<;>((iterate 13 (refine ae.setCell ?_ (Α σ) _));exact ae.refl _ _))
  .have hkD:decide (k > u)=false:=Ξ hk;rw[Γ hk];dsimp only;clear R
   go_enter func50,ntmps50
   (go_upto_region 1 with(fail);refine aU (TJ w S.R.sl.length S.R.most (.slice C T.length E) (.slice D G.length H) (.slice (some ⟨I,J,none⟩) S.A.hs.length K) (.slice (some ⟨r,t,none⟩) S.A.cs.length L) S.q (y) (gm)) {} ?_;rintro W ⟨z,f,f4,f5,c,Z,d⟩;have hl2:w.heap.size+1+1+1<W.heap.size:=Ε _ _ (d.cell 0 ω);obtain⟨d0,d1,d2,d3,P,Q,d6⟩:=id z;obtain⟨q0,q1⟩:=id f)
   have o:=o W c
   go_upto_region 4 with((((with_reducible refine o.mono ?_));rintro e w1 ⟨rfl,a⟩;(have m:=z.kept a σ);(have q:=f.kept a σ);(have uj:=Z.upd a σ);(have l:=d.upd a σ);(have abR:=(c.trans a).was M);(have ZA:=(c.trans a).was N);obtain⟨e0,e1,e2,e3,e4,e5,e6⟩:=id m;obtain⟨p0,p1⟩:=id q))
   refine aU (λY=>D7 Y w.heap.size S.R.sl.length S.R.most (.slice C T.length E) (.slice D G.length H) (.slice (some ⟨I,J,none⟩) S.A.hs.length K) (.slice (some ⟨r,t,none⟩) S.A.cs.length L) S.q/\Q2 Y (w.heap.size+1) y gm/\bH Y (w.heap.size+1+1) 39 7/\bH Y (w.heap.size+1+1+1) 67 6/\Y.cell? w1.heap.size=some ((u:Int):V)/\Y.cell? ⟨w1.heap.size,1,none⟩=some (.int .u64 n)/\ae [] w1 Y) ⟨m.kept (S:=[]) β σ,q.kept (S:=[]) β σ,uj.upd (S:=[]) β σ,l.upd (S:=[]) β σ,γ,γ,β⟩ ?_;rintro Y ⟨A,hqY,acZ,acb,c8,c9,hY⟩;have i:ae [] W Y:=a.trans hY
   have g4:=i.ay (S:=[]) P σ f4;have g5:=i.ay (S:=[]) Q σ f5;have U:=U Y (c.trans i) (Ψ hl2 i.size);clear z m f q d0 d1 d2 d3 P Q d6 q0 q1 e0 e1 e2 e3 e4 e5 e6 p0 p1 uj l Z d f4 f5 o abR ZA M N a hY;obtain⟨d0,d1,d2,d3,P,Q,d6⟩:=id A;obtain⟨q0,q1⟩:=id hqY
   go_wp2_with ((((with_reducible refine U.mono ?_));rintro e w3 ⟨zf,uG,zg,y8,ze,zh,rfl,hM1,p⟩;obtain⟨j0,j1,j2,j3,j4,j5,j6⟩:=A.kept p σ;(have b4:=p.ay (S:=[]) P σ g4);(have b5:=p.ay (S:=[]) Q σ g5);(have hRa:=acZ.upd p σ);(have hRb:=acb.upd p σ);(obtain⟨t0,t1,t2,t3,t4,t5,t6,s0,s1,s2,s3,s4,s5,s6,hBl⟩:=seven hRa);(obtain⟨u0,u1,u2,u3,u4,u5,v0,v1,v2,v3,v4,v5,hBm⟩:=oV hRb)))
   have R:∀X,ae [w.heap.size,w.heap.size+1,w.heap.size+1+1,w.heap.size+1+1+1] w3 X->bE X F (.agg #[(S.R.sl.length:Int),.int .u32 (S.R.most:Int),.slice C T.length E,.slice D G.length H,.slice (some ⟨zf,uG,none⟩) (aA S.A y k n).hs.length zg,.slice (some ⟨y8,ze,none⟩) (aA S.A y k n).cs.length zh,.int .u64 (S.q:Int)]) ⟨S.R,aA S.A y k n,S.q⟩/\ae [] w X:=λX hX=>by
    obtain⟨hT,hG,hM,nz,hq⟩:=HD.out;have Ob:=(c.trans i).trans p;have hB:∀b,b∈[w.heap.size,w.heap.size+1,w.heap.size+1+1,w.heap.size+1+1+1]->w.heap.size<=b:=λb hb=>by simp at hb;omega
    exact⟨⟨_,_,zf,uG,zg,y8,ze,zh,T,G,rfl,hT.fin Ob hB hX,hG.fin Ob hB hX,hM1.fin hX,nz,hq⟩,Ob.joined hX (λx hx=>Β (hB x hx))⟩
   refine bodyPost_ret (v:=.tuple #[.agg #[(S.R.sl.length:Int),.int .u32 (S.R.most:Int),.slice C T.length E,.slice D G.length H,.slice (some ⟨zf,uG,none⟩) (aA S.A y k n).hs.length zg,.slice (some ⟨y8,ze,none⟩) (aA S.A y k n).cs.length zh,.int .u64 (S.q:Int)],.agg #[(0:Int),(0:Int),(0:Int),.int .u32 0,(0:Int),(0:Int)]]) (by simp[results,results50,go_sem,t0,t1,t2,t3,t4,t5,t6,u0,u1,u2,u3,u4,u5]) rfl ?_;refine⟨_,rfl,(R _ ?_).1,(R _ ?_).2⟩
   all_goals ((iterate 15 (refine ae.setCell ?_ (Α σ) _));exact ae.refl _ _)
end
structure Z7(W:World)(b:Nat):Prop where
 f0:W.frozen? b=false:=by go_simp
 f1:W.frozen? ⟨b,1,none⟩=false:=by go_simp
 f2:W.frozen? ⟨b,2,none⟩=false:=by go_simp
 f3:W.frozen? ⟨b,3,none⟩=false:=by go_simp
 f4:W.frozen? ⟨b,4,none⟩=false:=by go_simp
 f5:W.frozen? ⟨b,5,none⟩=false:=by go_simp
 f6:W.frozen? ⟨b,6,none⟩=false:=by go_simp
def Z7.kept{W e:World}{S:List Nat}{b:Nat}{f g i:Int}{j k l m:Value}(h:Z7 W b)(a:D7 W b f g j k l m i)(c:ae S W e)(d:b∉S):Z7 e b:=⟨c.ay a.c0 d h.f0,c.ay a.c1 d h.f1,c.ay a.c2 d h.f2,c.ay a.c3 d h.f3,c.ay a.c4 d h.f4,c.ay a.c5 d h.f5,c.ay a.c6 d h.f6⟩
def Oa{f:FuncId}{a:Array Value}{Y:World}{r:Value}{F:List Nat}{v:St}(h:Calls prog f a Y λe w'=>∃v',e=.returned (.tuple #[v',r])/\bE w' F v' v/\ae [] Y w'):
  Calls prog f a Y λe w'=>∃(b c d:Int) (g:Option Addr) (i j:Nat) (k:Option Addr) (l m:Nat) (n:Option Addr) (o p:Nat) (q:Option Addr) (s t:Nat),e=.returned (.tuple #[.agg #[b,.int .u32 c,.slice g i j,.slice k l m,.slice n o p,.slice q s t,.int .u64 d],r])/\bE w' F (.agg #[b,.int .u32 c,.slice g i j,.slice k l m,.slice n o p,.slice q s t,.int .u64 d]) v/\ae [] Y w':=by
 refine h.mono ?_;rintro e w' ⟨v',rfl,u,w⟩;obtain⟨b,c,d,g,i,j,k,l,m,n,o,p,q,s,t,rfl⟩:=u.agg;exact⟨_,_,_,_,_,_,_,_,_,_,_,_,_,_,_,rfl,u,w⟩
def bE.beside{w Y:World}{F B:List Nat}{v:Value}{S:St}(h:bE w F v S)(c:ae [] w Y)(d:∀b,b∈B->w.heap.size<=b):bE Y (B++F) v S:=
 h.fresh (c.mono σ) (λg a=>by rcases τ.1 a with h|h;exact Β (d g h);exact Α h)
def bE.fin{w Y c X:World}{F B:List Nat}{v:Value}{S:St}(f:ae [] w Y)(i:ae [] Y c)(h:bE c (B++F) v S)(j:∀b,b∈B->w.heap.size<=b)(d:ae B c X):bE X F v S/\ae [] w X:=
 ⟨h.fresh (d.mono (λx a=>τ.2 (Α a))) (λg e=>Α (τ.2 (Β e))),(f.trans i).joined d (λx a=>Β (j x a))⟩
section
variable{w:World}{F:List Nat}{v:Value}{S:St}
def zq(h:YD v)(c j s A B C k x g:Int){f:FuncId}{d:Array Value}{r:Rp}{S2:St}(t:(c=1/\f=46/\d=#[v])\/(c=2/\f=47/\d=#[v,.int .i64 j,.int .i64 k])\/(c=4/\f=49/\d=#[v,.int .i64 j])\/(c=5/\f=50/\d=#[v,.agg #[.int .i64 x,.int .u32 g],.int .i64 k])\/(c=6/\f=51/\d=#[v,.agg #[.int .i64 x,.int .u32 g]])\/(c=7/\f=52/\d=#[v,.int .i64 j,.int .i64 s]))
  (i:∀Y,ae [] w Y->w.heap.size+5<=Y.heap.size->Calls prog f d Y λe w'=>∃v',e=.returned (.tuple #[v',r.v])/\bE w' ([w.heap.size,w.heap.size+1,w.heap.size+1+1,w.heap.size+1+1+1,w.heap.size+1+1+1+1]++F) v' S2/\ae [] Y w'):
  Calls prog 27 #[v,.agg #[c,j,s,A,.int .u32 B,.int .u8 C,k],.agg #[x,.int .u32 g]] w λe w'=>∃v',e=.returned (.tuple #[v',r.v])/\bE w' F v' S2/\ae [] w w':=by
 obtain⟨U,X,Z,a2,n2,c2,a3,n3,c3,a4,n4,c4,a5,n5,c5,rfl⟩:=h;have z:∀b,b∈[w.heap.size,w.heap.size+1,w.heap.size+1+1,w.heap.size+1+1+1,w.heap.size+1+1+1+1]->w.heap.size<=b:=λb hb=>by simp at hb;omega
 have i:=λY hY hl=>Oa (i Y hY hl);obtain⟨rc,rh,rs,rg,rk,rn⟩:=r;unfold Rp.v at *;dsimp only at *;rcases t with⟨ho,rfl,rfl⟩|⟨ho,rfl,rfl⟩|⟨ho,rfl,rfl⟩|⟨ho,rfl,rfl⟩|⟨ho,rfl,rfl⟩|⟨ho,rfl,rfl⟩
 all_goals
  go_enter func27,ntmps27
  (go_upto_region 1 with(fail);refine aU (λW=>D7 W w.heap.size U X (.slice a2 n2 c2) (.slice a3 n3 c3) (.slice a4 n4 c4) (.slice a5 n5 c5) Z/\Q7 W (w.heap.size+1) (c) j s A B C k/\Q2 W (w.heap.size+1+1) x g/\(D7 W (w.heap.size+1+1+1) 0 0 (.slice none 0 0) (.slice none 0 0) (.slice none 0 0) (.slice none 0 0) 0/\Z7 W (w.heap.size+1+1+1))/\(Q6 W (w.heap.size+1+1+1+1) 0 0 0 0 0 0/\Z6 W (w.heap.size+1+1+1+1))/\ae [] w W/\w.heap.size+5<=W.heap.size) ⟨{},{},{},⟨{},{}⟩,⟨{},{}⟩,β,σ⟩ ?_;rintro W ⟨D,l,m,⟨u,n⟩,⟨hp,o⟩,p,q⟩)
  subst ho;have i:=i W p q;obtain⟨d0,d1,d2,d3,d4,d5,d6⟩:=id D;obtain⟨q0,q1,q2,q3,q4,q5,q6⟩:=id l;obtain⟨t0,t1⟩:=id m
  go_wp2_with (((first|go_at_call 46|go_at_call 47|go_at_call 49|go_at_call 50|go_at_call 51|go_at_call 52);(with_reducible refine i.mono ?_);rintro e w1 ⟨E,G,H,I,J,K,L,M,N,O,P,Q,R,S,T,rfl,y,a⟩;(obtain⟨r0,r1,r2,r3,r4,r5,r6⟩:=u.kept a σ;obtain⟨IC,Ho,fr2,fr3,fr4,fr5,fr6⟩:=n.kept u a σ;obtain⟨p0,p1,p2,p3,p4,p5⟩:=hp.kept a σ;obtain⟨fp0,fp1,fp2,fp3,fp4,fp5⟩:=o.kept hp a σ)))
  refine bodyPost_ret (v:=.tuple #[.agg #[(E:Int),.int .u32 G,.slice I J K,.slice L M N,.slice O P Q,.slice R S T,.int .u64 H],.agg #[(rc:Int),(rh:Int),(rs:Int),.int .u32 rg,(rk:Int),(rn:Int)]]) (by simp[results,results27,go_sem,r0,r1,r2,r3,r4,r5,r6,p0,p1,p2,p3,p4,p5]) rfl ?_;refine⟨_,rfl,(bE.fin p a y z ?_).1,(bE.fin p a y z ?_).2⟩
  all_goals ((iterate 13 (refine ae.setCell ?_ (Α σ) _));exact ae.refl _ _)
def H8(h:bE w F v S)(c k bb ss gg oo kk x g:Int){f:FuncId}{j:Array Value}{r:Rp}(s:(c=3/\f=48/\j=#[v,.int .i64 k])\/(c=8/\f=53/\j=#[v,.int .i64 k])\/(c=9/\f=54/\j=#[v,.agg #[.int .i64 x,.int .u32 g]])\/(c=10/\f=55/\j=#[v,.agg #[.int .i64 x,.int .u32 g]]))
  (o:∀Y,ae [] w Y->Calls prog f j Y λe w'=>e=.returned r.v/\ae [] Y w'):
  Calls prog 27 #[v,.agg #[c,k,bb,ss,.int .u32 gg,.int .u8 oo,kk],.agg #[x,.int .u32 g]] w λe w'=>∃v',e=.returned (.tuple #[v',r.v])/\bE w' F v' S/\ae [] w w':=by
 obtain⟨z,A,B,C,D,E,G,H,I,J,K,L,M,N,O,rfl⟩:=h.agg;have hB:∀b,b∈[w.heap.size,w.heap.size+1,w.heap.size+1+1,w.heap.size+1+1+1,w.heap.size+1+1+1+1]->w.heap.size<=b:=λb hb=>by simp at hb;omega
 have HF:=χ (λX (hX:ae [] w X)=>ψ (h.ag hX) hX);obtain⟨rc,rh,rs,rg,rk,rn⟩:=r;unfold Rp.v at *;dsimp only at *;clear h;rcases s with⟨ho,rfl,rfl⟩|⟨ho,rfl,rfl⟩|⟨ho,rfl,rfl⟩|⟨ho,rfl,rfl⟩
 all_goals
  go_enter func27,ntmps27
  (go_upto_region 1 with(fail);refine aU (λW=>D7 W w.heap.size z A (.slice C D E) (.slice G H I) (.slice J K L) (.slice M N O) B/\Q7 W (w.heap.size+1) (c) k bb ss gg oo kk/\Q2 W (w.heap.size+1+1) x g/\(D7 W (w.heap.size+1+1+1) 0 0 (.slice none 0 0) (.slice none 0 0) (.slice none 0 0) (.slice none 0 0) 0/\Z7 W (w.heap.size+1+1+1))/\(Q6 W (w.heap.size+1+1+1+1) 0 0 0 0 0 0/\Z6 W (w.heap.size+1+1+1+1))/\ae [] w W/\w.heap.size+5<=W.heap.size) ⟨{},{},{},⟨{},{}⟩,⟨{},{}⟩,β,σ⟩ ?_;rintro W ⟨hd,d,l,⟨t,m⟩,⟨hp,n⟩,u,hl5⟩)
  subst ho;obtain⟨P,Q,R,U,Z,q5,q6⟩:=id d
  first|go_upto_region 7 with(fail)|go_upto_region 17 with(fail)|go_upto_region 19 with(fail)|go_upto_region 21 with(fail)
  clear P Q R U Z q5 q6;have o:=λY (hY:ae [w.heap.size+1+1+1,w.heap.size+1+1+1+1] W Y)=>o Y (u.joined hY (λx q=>Β (hB x (by simp at q ⊢;omega))));obtain⟨d0,d1,d2,d3,d4,d5,d6⟩:=hd.rules (S:=[w.heap.size+1+1+1,w.heap.size+1+1+1+1]) ι;obtain⟨P,Q,R,U,Z,q5,q6⟩:=d.rules (S:=[w.heap.size+1+1+1,w.heap.size+1+1+1+1]) ι;obtain⟨t0,t1⟩:=l.rules (S:=[w.heap.size+1+1+1,w.heap.size+1+1+1+1]) ι;have acm:ae [w.heap.size+1+1+1,w.heap.size+1+1+1+1] W W:=ae.refl _ _
  go_region_held3 (ae [w.heap.size+1+1+1,w.heap.size+1+1+1+1] W) (repeat(first|(with_reducible assumption)|(with_reducible exact ae.refl _ _)|(with_reducible refine ae.drew ?_)|(with_reducible refine ae.alloc ?_ _)|(with_reducible refine ae.setCell ?_ ?_ _)|focus(left;simp;done)|focus(right;simp;done)|focus(right;simp;omega)))
   (first
    | ((first|go_at_call 48|go_at_call 53|go_at_call 54|go_at_call 55);(with_reducible refine (o _ (by (repeat (first|(with_reducible assumption)|(with_reducible exact ae.refl _ _)|(with_reducible refine ae.drew ?_)|(with_reducible refine ae.alloc ?_ _)|(with_reducible refine ae.setCell ?_ ?_ _)|focus (left;simp;done)|focus (right;simp;done)|focus (right;simp;omega))))).mono ?_);rintro e y ⟨rfl,i⟩;(have p:ae [w.heap.size+1+1+1,w.heap.size+1+1+1+1] W y:=ae.trans (by (repeat (first|(with_reducible assumption)|(with_reducible exact ae.refl _ _)|(with_reducible refine ae.drew ?_)|(with_reducible refine ae.alloc ?_ _)|(with_reducible refine ae.setCell ?_ ?_ _)|focus (left;simp;done)|focus (right;simp;done)|focus (right;simp;omega)))) (i.mono σ));(have a:ae [] W y:=ae.trans β i);(obtain ⟨r0,r1,r2,r3,r4,r5,r6⟩:=t.kept a σ;obtain ⟨IC,Ho,fr2,fr3,fr4,fr5,fr6⟩:=m.kept t a σ;obtain ⟨p0,p1,p2,p3,p4,p5⟩:=hp.kept a σ;obtain ⟨fp0,fp1,fp2,fp3,fp4,fp5⟩:=n.kept hp a σ)))
  go_wp2;refine bodyPost_ret (v:=.tuple #[.agg #[(z:Int),.int .u32 A,.slice C D E,.slice G H I,.slice J K L,.slice M N O,.int .u64 B],.agg #[(rc:Int),(rh:Int),(rs:Int),.int .u32 rg,(rk:Int),(rn:Int)]]) (by simp[results,results27,go_sem,r0,r1,r2,r3,r4,r5,r6,p0,p1,p2,p3,p4,p5]) rfl ?_;refine⟨_,rfl,(HF.out _ ?_).1,(HF.out _ ?_).2⟩
  all_goals
   refine u.joined (T:=[w.heap.size,w.heap.size+1,w.heap.size+1+1,w.heap.size+1+1+1,w.heap.size+1+1+1+1]) ?_ (λx q=>Β (hB x q))
   (iterate 13 (refine ae.setCell ?_ (Α σ) _))
   exact p.mono σ
def abJ(h:bE w F v S)(a H I J K L M x g:Int)(j:a<1\/10<a):
  Calls prog 27 #[v,.agg #[a,H,I,J,.int .u32 K,.int .u8 L,M],.agg #[x,.int .u32 g]] w λe w'=>∃v',e=.returned (.tuple #[v',(xR 0).v])/\bE w' F v' S/\ae [] w w':=by
 obtain⟨l,m,n,o,p,q,r,s,t,u,y,z,A,B,C,rfl⟩:=h.agg;have hB:∀b,b∈[w.heap.size,w.heap.size+1,w.heap.size+1+1,w.heap.size+1+1+1,w.heap.size+1+1+1+1]->w.heap.size<=b:=λb hb=>by simp at hb;omega
 have D:=χ (λX (G:ae [] w X)=>ψ (h.ag G) G);have nn1:(a == 1)=false:=ζ;have nn2:(a == 2)=false:=ζ;have nn3:(a == 3)=false:=ζ;have nn4:(a == 4)=false:=ζ;have nn5:(a == 5)=false:=ζ;have nn6:(a == 6)=false:=ζ;have nn7:(a == 7)=false:=ζ;have nn8:(a == 8)=false:=ζ;have nn9:(a == 9)=false:=ζ;have E:(a == 10)=false:=ζ;clear h j
 go_enter func27,ntmps27
 (go_upto_region 1 with(fail);refine aU (λW=>D7 W w.heap.size l m (.slice o p q) (.slice r s t) (.slice u y z) (.slice A B C) n/\Q7 W (w.heap.size+1) (a) H I J K L M/\Q2 W (w.heap.size+1+1) x g/\(D7 W (w.heap.size+1+1+1) 0 0 (.slice none 0 0) (.slice none 0 0) (.slice none 0 0) (.slice none 0 0) 0/\Z7 W (w.heap.size+1+1+1))/\(Q6 W (w.heap.size+1+1+1+1) 0 0 0 0 0 0/\Z6 W (w.heap.size+1+1+1+1))/\ae [] w W/\w.heap.size+5<=W.heap.size) ⟨{},{},{},⟨{},{}⟩,⟨{},{}⟩,β,σ⟩ ?_;rintro W ⟨N,d,O,⟨k,f⟩,⟨hp,i⟩,P,Q⟩)
 obtain⟨d0,d1,d2,d3,d4,d5,d6⟩:=id N;obtain⟨q0,q1,q2,q3,q4,q5,q6⟩:=id d;have c:ae [] W W:=ae.refl _ _
 (obtain⟨R,U,Y,Z,r4,r5,r6⟩:=k.kept c σ;obtain⟨IC,Ho,fr2,fr3,fr4,fr5,fr6⟩:=f.kept k c σ;obtain⟨p0,p1,p2,p3,p4,p5⟩:=hp.kept c σ;obtain⟨fp0,fp1,fp2,fp3,fp4,fp5⟩:=i.kept hp c σ)
 go_wp2;refine bodyPost_ret (v:=.tuple #[.agg #[(l:Int),.int .u32 m,.slice o p q,.slice r s t,.slice u y z,.slice A B C,.int .u64 n],.agg #[(0:Int),(0:Int),(0:Int),.int .u32 0,(0:Int),(0:Int)]]) (by simp[results,results27,go_sem,R,U,Y,Z,r4,r5,r6,p0,p1,p2,p3,p4,p5]) rfl ?_;refine⟨_,rfl,(D.out _ ?_).1,(D.out _ ?_).2⟩
 all_goals
  refine P.joined (T:=[w.heap.size,w.heap.size+1,w.heap.size+1+1,w.heap.size+1+1+1,w.heap.size+1+1+1+1]) ?_ (λx hx=>Β (hB x hx))
  (iterate 13 (refine ae.setCell ?_ (Α σ) _))
  exact ae.refl _ _
def TZ(h:bE w F v S)(o:S.Ok)(K:∀x,x∈F->x<w.heap.size)(p:S.q<=1000)(a:Ac)(x g:Int):
  Calls prog 27 #[v,a.v,.agg #[x,.int .u32 g]] w λe w'=>∃v',e=.returned (.tuple #[v',(a.run S x g).2.v])/\bE w' F v' (a.run S x g).1/\ae [] w w':=by
 obtain⟨k,d,i,l,m,n,f⟩:=a;have I:∀b,b∈[w.heap.size,w.heap.size+1,w.heap.size+1+1,w.heap.size+1+1+1,w.heap.size+1+1+1+1]->w.heap.size<=b:=λb J=>by simp at J;omega
 have D:=λY (c:ae [] w Y)=>h.beside c I;have q:∀Y,ae [] w Y->w.heap.size+5<=Y.heap.size->∀z,z∈[w.heap.size,w.heap.size+1,w.heap.size+1+1,w.heap.size+1+1+1,w.heap.size+1+1+1+1]++F->z<Y.heap.size:=λY c j z r=>by rcases τ.1 r with r|r;(simp at r;omega);exact Ψ (K z r) c.size
 unfold Ac.run Ac.v;dsimp only
 by_cases t:k=1
 .simp only[t,reduceIte,Int.reduceEq];exact zq h.agg _ d i l m n f x g (Α ⟨rfl,rfl,rfl⟩) (λY c j=>Px (D Y c) o (q Y c j))
 rw[Γ t]
 by_cases u:k=2
 .simp only[u,reduceIte,Int.reduceEq];exact zq h.agg _ d i l m n f x g (Β (Α ⟨rfl,rfl,rfl⟩)) (λY c j=>Qh (D Y c) o (q Y c j) p d f)
 rw[Γ u]
 by_cases y:k=3
 .simp only[y,reduceIte,Int.reduceEq];exact H8 h _ d i l m n f x g (Α ⟨rfl,rfl,rfl⟩) (λY c=>Ey (h.ag c) o p d)
 rw[Γ y]
 by_cases A:k=4
 .simp only[A,reduceIte,Int.reduceEq];exact zq h.agg _ d i l m n f x g (Β (Β (Α ⟨rfl,rfl,rfl⟩))) (λY c j=>Rh (D Y c) o (q Y c j) p d)
 rw[Γ A]
 by_cases B:k=5
 .simp only[B,reduceIte,Int.reduceEq];exact zq h.agg _ d i l m n f x g (Β (Β (Β (Α ⟨rfl,rfl,rfl⟩)))) (λY c j=>Py (D Y c) o (q Y c j) p x g f)
 rw[Γ B]
 by_cases C:k=6
 .simp only[C,reduceIte,Int.reduceEq];exact zq h.agg _ d i l m n f x g (Β (Β (Β (Β (Α ⟨rfl,rfl,rfl⟩))))) (λY c j=>RJ (D Y c) o (q Y c j) p x g)
 rw[Γ C]
 by_cases E:k=7
 .simp only[E,reduceIte,Int.reduceEq];exact zq h.agg _ d i l m n f x g (Β (Β (Β (Β (Β (⟨rfl,rfl,rfl⟩)))))) (λY c j=>PT (D Y c) o (q Y c j) d i)
 rw[Γ E]
 by_cases G:k=8
 .simp only[G,reduceIte,Int.reduceEq];exact H8 h _ d i l m n f x g (Β (Α ⟨rfl,rfl,rfl⟩)) (λY c=>P8 (h.ag c) o d)
 rw[Γ G]
 by_cases H:k=9
 .simp only[H,reduceIte,Int.reduceEq];exact H8 h _ d i l m n f x g (Β (Β (Α ⟨rfl,rfl,rfl⟩))) (λY c=>PS (h.ag c) o p x g)
 rw[Γ H]
 by_cases s:k=10
 .simp only[s,reduceIte,Int.reduceEq];exact H8 h _ d i l m n f x g (Β (Β (Β (⟨rfl,rfl,rfl⟩)))) (λY c=>SA (h.ag c) o p x g)
 rw[Γ s];exact abJ h k d i l m n f x g ω
