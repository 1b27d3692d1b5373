/-
  Lemmas. Conditions: those of each lemma.
-/
import Derived.Deep.AppendLies
import Derived.Test.YtklibcncmbofpaaGreatO14
import Derived.Test.YtklibcncmbofpaaGreatO18
set_option linter.all false
set_option maxHeartbeats 8000000
set_option maxRecDepth 10000
namespace Go.Proofs.YtklibcncmbofpaaGreat
open Go Go.RowKit
theorem Ld {N s:Nat} {E:List Ed} {D B:List Int} (hw:bD (N:Int) E=true) (hs:s<N) (h:mE (eN E) N s (passes (eN E) s N) D B):∀x,x∈D->-9223372036854775808<=x/\x<=9223372036854775807:=by
 intro x hx;obtain ⟨v,hv,rfl⟩:=List.mem_iff_getElem.1 hx;have hd:=(h.2.2 v (by have:=h.1;omega)).1;have hle:passes (eN E) s N v<=9223372036854775807:=(nH (xS hw hs) N).le v;simp only [φ,ε hv,Option.getD_some] at hd;rw [hd];omega
theorem zi (l:List Int) (v:Nat) (x:Int) (hv:v<l.length):(l.set v x).getD v 0=x:=by simp [φ,hv]
theorem zP (l:List Int) (v:Nat) (hv:v<l.length):l.set v (l.getD v 0)=l:=by
 refine List.ext_getElem? fun i=>?_
 by_cases e:v=i
 ·subst e;rw [ώ hv];simp [φ,hv]
 ·rw [Ϗ e]
theorem Kj {E:List En} {N s v:Nat} {W:Nat->Nat} {D B:List Int} {x:Int} (h:mE E N s W D B) (hv:v<N):mE E N s W (D.set v x) B↔x=D.getD v 0:=by
 have hl:v<D.length:=by have:=h.1;omega
 constructor
 ·intro h';have h1:=(h'.2.2 v hv).1;rw [zi D v x hl] at h1;rw [h1,(h.2.2 v hv).1]
 ·intro e;rw [e,zP D v hl];exact h
theorem Kz {E:List Ed} {N s v:Nat} {W:Nat->Nat} {D B:List Int} {y:Int} (hw:bD (N:Int) E=true) (h:mE (eN E) N s W D B) (hv:v<N) (h':mE (eN E) N s W D (B.set v y)) :
  y=B.getD v 0\/(0<=y/\y<E.length/\(E.getD y.toNat default).t=v):=by
 have hl:v<B.length:=by have:=h.2.1;omega
 obtain ⟨_,h1,h2⟩:=h'.2.2 v hv;rw [zi B v y hl] at h1
 by_cases c:v=s\/W v=inf
 ·exact Α (by rw [h1 c,(h.2.2 v hv).2.1 c])
 ·have hc:=h2 c;obtain ⟨k,rfl⟩:∃k,N=k+1:=⟨N-1,ω⟩;rw [zV (fun e=>c (Α e)),Τ] at hc;have hs:=hc.1;unfold jk at hs;simp only [Τ,Ο,zi B v y hl] at hs;obtain ⟨⟨⟨⟨a0,a1⟩,a2⟩,a3⟩,a4⟩:=hs;rw [Av] at a1;obtain ⟨i,rfl⟩:∃i:Nat,y=i:=⟨y.toNat,ω⟩;have hi:i<E.length:=ω;rw [EW E i hi] at a2;have he:E.getD i default∈E:=Η (show E[i]?=some (E.getD i default) by simp [φ,hi]);have hr:=dM (fK hw) he;refine Β ⟨ω,ω,?_⟩;rw [π];have ht:(E.getD i default).t.toNat=v:=a2;omega
theorem KS {E:List En} {N s v:Nat} {W:Nat->Nat} {D B:List Int} {y:Int} (h:mE E N s W D B) (hv:v<N) (h':¬mE E N s W D (B.set v y)):y≠B.getD v 0:=by
 rintro rfl;rw [zP B v (by have:=h.2.1;omega)] at h';exact h' h
theorem GI (w:World) (N s v:Nat) (x:Int) (va vd vb:Value) (E:List Ed) (D B:List Int) (hE:vZ w va E) (qc:bD (N:Int) E=true) (hs:s<N) (hv:v<N) (hx:-9223372036854775808<=x/\x<=9223372036854775807) (hD:fw w [] vd (D.set v x)) (hB:fw w [] vb B) (hT:mE (eN E) N s (passes (eN E) s N) D B) (hwb:∀e,e∈E->e.w<=9223372036854775807) :
  Calls Tryz.prog 37 #[.agg #[.int .i64 (N:Int),va],.int .i64 (s:Int),.agg #[vd,vb]] w fun r w'=>r=.returned (.bool (decide (x=D.getD v 0)))/\aa [] w w':=
 (qz w N va vd vb E (D.set v x) B s hE hwb hD hB (fun z hz=>by
  rcases List.mem_or_eq_of_mem_set hz with h|rfl
  ·exact Ld qc hs hT z h
  ·exact hx)).mono fun r w' h=>qK h (by
  rw [Ο,←Kj (x:=x) hT hv]
  exact ⟨fun h=>⟨qc,ω,ω,h⟩,fun h=>h.2.2.2⟩)
theorem Oi (w:World) (N s v:Nat) (y:Int) (va vd vb:Value) (E:List Ed) (D B:List Int) (hE:vZ w va E) (qc:bD (N:Int) E=true) (hs:s<N) (hD:fw w [] vd D) (hB:fw w [] vb (B.set v y)) (hT:mE (eN E) N s (passes (eN E) s N) D B) (hwb:∀e,e∈E->e.w<=9223372036854775807) (b:Bool) (hb:b=true↔mE (eN E) N s (passes (eN E) s N) D (B.set v y)) :
  Calls Tryz.prog 37 #[.agg #[.int .i64 (N:Int),va],.int .i64 (s:Int),.agg #[vd,vb]] w fun r w'=>r=.returned (.bool b)/\aa [] w w':=
 (qz w N va vd vb E D (B.set v y) s hE hwb hD hB (Ld qc hs hT)).mono fun r w' h=>qK h (hb.trans ⟨fun h=>⟨qc,ω,ω,h⟩,fun h=>h.2.2.2⟩)
structure iV (e:TypeId) (g:Nat) (w:World):Prop where
 at':w.heap[g]?=some (.cells #[] e (0,0))
theorem iV.new {e:TypeId} {g:Nat} {w:World} (h:g=w.heap.size):iV e g (w.alloc (.cells #[] e)):=by
 subst h;exact ⟨by show (w.heap.push _)[w.heap.size]?=_;simp⟩
theorem iV.lt {e:TypeId} {g:Nat} {w:World} (h:iV e g w):g<w.heap.size:=(Array.getElem?_eq_some_iff.1 h.at').1
theorem iV.upd {e:TypeId} {g:Nat} {w w':World} {S:List Nat} (h:iV e g w) (hu:aa S w w') (hn:g∉S):iV e g w':=⟨by rw [hu.block g h.lt hn];exact h.at'⟩
theorem iV.alloc {e:TypeId} {g:Nat} {w:World} (h:iV e g w) (o:Obj):iV e g (w.alloc o):=h.upd ((aa.refl [] w).alloc o) σ
theorem iV.drew {e:TypeId} {g:Nat} {w:World} (h:iV e g w):iV e g w.drew:=h.upd ((aa.refl [] w).drew) σ
structure kS (w:World) (ad:Addr) (news:List Value):Prop where
 at':∀j u,news[j]?=some u->w.cell? (ad.add j)=some u
theorem kS.upd {w w':World} {ad:Addr} {news:List Value} (h:kS w ad news) (hu:aa [] w w'):kS w' ad news:=⟨fun j u hj=>hu.was (h.at' j u hj)⟩
theorem kS.ints {w:World} {a:Option Addr} {n c:Nat} {l:List Int} (h:fw w [] (.slice a n c) l) (hl:0<l.length):∃g off,a=some ⟨g,off,none⟩/\kS w ⟨g,off,none⟩ (aF l):=by
 obtain ⟨a',c',he,_,_,h3⟩:=h;cases he;obtain ⟨g,off,rfl,_,_,_⟩:=h3 0 _ (ε hl);refine ⟨g,off,rfl,⟨fun j u hj=>?_⟩⟩;unfold aF at hj;rw [ϓ] at hj;cases hq:l[j]? with
 | none=>rw [hq] at hj;cases hj
 | some y=>
  rw [hq] at hj;simp at hj;subst hj;obtain ⟨g',off',he,_,_,hc⟩:=h3 j y hq;cases he;rw [Addr.add_lit];exact hc
theorem Ca {ops:Array Oper} {o:Oper} {a:Act} {w:World} {K:Act->World->Prop} {Q:Exit->Act->World->Prop} {E:Prop} (hgd:o.guard=none) (s x:Operand) (t e:TypeId)
  (ho:o.op=.call { callee:=.builtin .append,args:=#[s,x],argTypes:=#[t,t] }) (z:Value) (size bytes:Nat) (ht:Tryz.prog.underlying t=some (.slice e))
  (hinfo:(Tryz.prog.info? e).map (fun i=>(i.zero,i.size,i.bytes))=some (some z,size,bytes)) (hzs:z.cells.size=size) (hsz:0<size)
  (gl:Nat) (hs:a.eval s=.slice (some ⟨gl,0,none⟩) 0 0) (aB:iV e gl w)
  (ad:Addr) (m c:Nat) (news:List Value) (hx:a.eval x=.slice (some ad) m c) (hl:news.length=m*size) (hnews:kS w ad news) (h1:∀u∈news,u.oneCell'=true)
  (hm:0<m) (hm2:m<=1000000) (hb2:bytes<=100)
  (h:∀g cap w',w'.ownsRow gl e size (.slice (some ⟨g,0,none⟩) m cap) m news->aa [gl] w w'->(g=gl\/g=w.heap.size)->K (a.put o.dst (.slice (some ⟨g,0,none⟩) m cap)) w') :
  if Region.wanted o (yielded ops a.tmps)=true then Oper.wp Tryz.prog o a w K Q else E:=by
 obtain ⟨i,hi,hz0,hz1,hz2⟩:=info_parts hinfo;have hown:w.ownsRow gl e size (.slice (some ⟨gl,0,none⟩) 0 0) 0 []:=⟨σ,Β ⟨gl,0,#[],rfl,Θ _,aB.at',Θ _,μ,σ,σ⟩⟩;have hlt:=aB.lt;refine step_append_lies w hgd s x t ho gl e i z size bytes ht hi hz0 hz1 hz2 hzs hsz _ 0 [] hs hown ad m c news hx hl hnews.at' h1 hm μ (by rw [ϕ];exact Χ (Nat.mul_le_mul hm2 hb2) δ) ω w.heap.size rfl ?_;intro g cap w' ho' hg hat hlt';simp only [ϕ,Ϝ] at ho';rw [ϕ];refine h g cap w' ho' ((aa.refl _ _).grown hg (fun k hk=>Α ?_)) ?_
 ·have:some gl=some k:=hk;simp at this;simp [this]
 ·rcases hat with h|h
  ·have:some gl=some g:=h;simp at this;exact Α this.symm
  ·exact Β h
theorem aa.copy {a w w':World} {gl:Nat} (h:aa [] a w) (hu:aa [gl] w w') (hg:a.heap.size<=gl):aa [] a w':=h.joined hu (fun x hx=>Β (by simp at hx;omega))
theorem XR {e:TypeId} {w:World} {gl g m cap:Nat} {l:List Int} (h:w.ownsRow gl e 1 (.slice (some ⟨g,0,none⟩) m cap) m (aF l)) (hl:l.length=m):IE e w g cap l:=⟨by rw [hl];exact jE h ω⟩
theorem IE.alloc {e:TypeId} {w:World} {g cap:Nat} {l:List Int} (h:IE e w g cap l) (o:Obj):IE e (w.alloc o) g cap l:=h.upd ((aa.refl [] w).alloc o) σ
theorem IE.Tu {e:TypeId} {w:World} {g cap:Nat} {l:List Int} (h:IE e w g cap l) (p:Addr) (v:Value) (hn:p.block≠g):IE e (w.setCell p v) g cap l:=h.upd (S:=[p.block]) ((aa.refl _ w).setCell (Α σ) v) (by simp;exact fun e=>hn e.symm)
theorem aa.two {G:Prop} {w w':World} {gl:Nat} (hu:aa [gl] w w') (b:Nat) (v0 v1:Value) (h0:w.cell? ⟨b,0,none⟩=some v0) (h1:w.cell? ⟨b,1,none⟩=some v1) (f0:w.frozen? ⟨b,0,none⟩=false) (f1:w.frozen? ⟨b,1,none⟩=false) (hn:b≠gl)
  (k:w'.cell? ⟨b,0,none⟩=some v0->w'.cell? ⟨b,1,none⟩=some v1->w'.frozen? ⟨b,0,none⟩=false->w'.frozen? ⟨b,1,none⟩=false->b<w'.heap.size->G):G:=
 k (hu.kept h0 (by simpa using hn)) (hu.kept h1 (by simpa using hn)) (hu.aK h0 (by simpa using hn) f0) (hu.aK h1 (by simpa using hn) f1) (Ψ (Ε _ _ h0) hu.size)
structure PoF (w:World) (gd od gb ob N:Nat) (D B:List Int) (E:List Ed):Prop where
 ld:D.length=N
 lb:B.length=N
 ltd:gd<w.heap.size
 ltb:gb<w.heap.size
 nd:kS w ⟨gd,od,none⟩ (aF D)
 nb:kS w ⟨gb,ob,none⟩ (aF B)
 tree:mE (eN E) N 0 (passes (eN E) 0 N) D B
theorem kS.cell {w:World} {g off:Nat} {l:List Int} (h:kS w ⟨g,off,none⟩ (aF l)) {j:Nat} (hj:j<l.length):w.cell? ⟨g,off+j,none⟩=some (.int .i64 (l.getD j 0)):=by
 have:=h.at' j _ (lK hj);rwa [Addr.add_lit] at this
theorem Ve {K:gB} {kd dd:Int} (W:World) (N:Nat) (va:Value) (E:List Ed) (hE:vZ W va E) (qc:bD (N:Int) E=true) (hN:0<N) (hc:yV kd dd=0) (ko:om K kd dd N) :
  Calls Tryz.prog 29 #[.agg #[.int .i64 kd,.int .i64 dd],.agg #[.int .i64 (N:Int),va],.int .i64 0] W fun e w'=>∃gd od cd gb ob cb D B,e=.returned (.tuple #[.agg #[.slice (some ⟨gd,od,none⟩) N cd,.slice (some ⟨gb,ob,none⟩) N cb],.int .i64 0])/\PoF w' gd od gb ob N D B E/\aa [] W w':=by
 refine (Rf (K:=K) (kd:=kd) (dd:=dd) W N 0 va E hE qc hN hc ko).mono ?_;rintro e w5 ⟨vd,vb,D,B,rfl,hD,hB,hT,bP⟩;have e1:=hT.1;have e2:=hT.2.1;have hD0:=hD;have hB0:=hB;obtain ⟨ad,cd,rfl, -, -,G'⟩:=hD;obtain ⟨ab,cb,rfl, -, -,hbc⟩:=hB;obtain ⟨gd,od,rfl,n1⟩:=kS.ints hD0 ω;obtain ⟨gb,ob,rfl,n2⟩:=kS.ints hB0 ω;rw [e1,e2];have h1:gd<w5.heap.size:=by
  obtain ⟨_,_,h,h',_⟩:=G' 0 _ (ε ω);cases h;exact h'
 have h2:gb<w5.heap.size:=by
  obtain ⟨_,_,h,h',_⟩:=hbc 0 _ (ε ω);cases h;exact h'
 exact ⟨gd,od,cd,gb,ob,cb,D,B,rfl,⟨e1,e2,h1,h2,n1,n2,hT⟩,bP⟩
structure CpM (wA W:World) (b g c g' c' N:Nat) (D B:List Int):Prop where
 hb:wA.heap.size<=b
 hg:wA.heap.size<=g
 hg':wA.heap.size<=g'
 n1:g≠g'
 n2:b≠g
 n3:b≠g'
 c0:W.cell? ⟨b,0,none⟩=some (.slice (some ⟨g,0,none⟩) N c)
 c1:W.cell? ⟨b,1,none⟩=some (.slice (some ⟨g',0,none⟩) N c')
 rd:IE 2 W g c D
 rb:IE 3 W g' c' B
 u:aa [] wA W
theorem R6 (w:World) (v:Value) (kd d N V x y:Int) (E:List Ed) (va:Value) (hG:Ls w v N E va) (hx:-9223372036854775808<=x/\x<=9223372036854775807) :
  Calls Tryz.prog 14 #[.agg #[.int .i64 kd,.int .i64 d],v,.agg #[.int .i64 V,.int .i64 x,.int .i64 y]] w fun r w'=>r=.returned (.bool true)/\aa [] w w':=by
 obtain ⟨rfl,hE,hwb⟩:=hG;have kc:=fun W=>KT kd d W;have kw:=fun W (hW:aa [] w W)=>JI W N va E (hE.upd hW);have hE0:=hE;obtain ⟨a,cap,rfl,hcap⟩:=hE.shape;have HE:=χ (ψ hE0 hwb);clear hE hE0 hwb;have kg:=fun W=>OX W N a E.length cap
 by_cases hm:qE N E.length=false/\yV kd d=0/\bD N E=true/\¬N<1
 ·obtain ⟨hg,hc,qc,hN⟩:=hm;rw [hg] at kg;rw [hc] at kc;rw [qc] at kw;obtain ⟨N,rfl⟩:∃q:Nat,N=q:=⟨N.toNat,ω⟩;have hbd:=kN (fK qc);have hNb:decide ((N:Int)<1)=false:=by simpa using hN
  obtain ⟨K,ko⟩:=Nv kd d N hc ω;have kF:=fun W (hW:aa [] w W)=>Ve (K:=K) (kd:=kd) (dd:=d) W N (.slice a E.length cap) E (HE.out.1.upd hW) qc ω hc ko;have hT0:=χ (ψ qc hbd);clear hc qc hbd ko hg;generalize hn:E.length=n at *;have HN:=χ hn;clear hn
  go_enter Tryz.func14,Tryz.ntmps14
  go_upto_region 8 with (first|((go_at_call 35;(with_reducible refine (zg _).mono ?_));rintro e w1 ⟨rfl,hu1⟩;(have bL:w1.cell? ⟨w.heap.size,0,none⟩=some (.int .i64 kd):=hu1.was γ);(have bS:w1.cell? ⟨w.heap.size,1,none⟩=some (.int .i64 d):=hu1.was γ);(have dJ:w1.cell? ⟨w.heap.size+1,0,none⟩=some (.int .i64 N):=hu1.was γ);(have fA:w1.cell? ⟨w.heap.size+1,1,none⟩=some (.slice a n cap):=hu1.was γ);(have fC:w1.cell? ⟨w.heap.size+1+1,0,none⟩=some (.int .i64 V):=hu1.was γ);(have fD:w1.cell? ⟨w.heap.size+1+1,1,none⟩=some (.int .i64 x):=hu1.was γ);(have q16:w1.cell? ⟨w.heap.size+1+1,2,none⟩=some (.int .i64 y):=hu1.was γ);(have hw1:aa [] w w1:=aa.trans β hu1))|((go_at_call 36;(with_reducible refine (kg _).mono ?_));rintro e w2 ⟨rfl,hu2⟩;(have fF:=hu2.was bL);(have fG:=hu2.was bS);(have q22:=hu2.was dJ);(have gV:=hu2.was fA);(have q24:=hu2.was fC);(have gW:=hu2.was fD);(have gY:=hu2.was q16);(have hw2:=hw1.trans hu2))|((go_at_call 18;(with_reducible refine (kc _).mono ?_));rintro e w3 ⟨rfl,hu3⟩;(have ic:=hu3.was fF);(have ik:=hu3.was fG);(have q32:=hu3.was q22);(have iq:=hu3.was gV);(have jH:=hu3.was q24);(have jI:=hu3.was gW);(have oI:=hu3.was gY);(have hw3:=hw2.trans hu3))|((go_at_call 32;(with_reducible refine (kw _ hw3).mono ?_));rintro e w4 ⟨rfl,fP⟩;(have f':=fP.was ic);(have H':=fP.was ik);(have i':=fP.was q32);(have j':=fP.was iq);(have k':=fP.was jH);(have l':=fP.was jI);(have m':=fP.was oI);(have hw4:=hw3.trans fP))|((go_at_call 29;(with_reducible refine (kF _ hw4).mono ?_));rintro e w5 ⟨gd,od,cd,gb,ob,cb,D,B,rfl,hF,bP⟩;(have n':=bP.was f');(have oK:=bP.was i');(have o':=bP.was j');(have Bo:=bP.was k');(have p':=bP.was l');(have q':=bP.was m');(have hb3:w.heap.size+1<w5.heap.size:=Ε _ _ oK);(have hb4:w.heap.size<w5.heap.size:=Ε _ _ n');(have hb5:w.heap.size+1+1<w5.heap.size:=Ε _ _ Bo);(have PM:=hw4.trans bP))|fail)
  by_cases hV:V<0\/(N:Int)<=V
  ·have r':decide (V<0)=true\/(decide (V<0)=false/\decide (V≥(N:Int))=true):=by
    by_cases h:V<0
    ·exact Α (Ν h)
    ·exact Β ⟨Ξ h,Ν (hV.resolve_left h)⟩
   clear hV;rcases r' with h|⟨h,h'⟩
   all_goals
    go_wp2;go_ret;exact ⟨rfl,PM.trans β⟩
  ·obtain ⟨i,rfl⟩:∃q:Nat,V=q:=⟨V.toNat,ω⟩;have hi:i<N:=ω;have hVb:decide ((i:Int)<0)=false:=Ξ ω;have hVc:decide ((i:Int)≥(N:Int))=false:=Ξ ω;have r':decide (N<=i)=false:=by simpa using hi
   have I':=χ hi;clear hV hi
   go_upto_region 10 with (fail)
   obtain ⟨wA,ZU⟩:∃wA,wA=w5.alloc (.cells #[.slice (some ⟨gd,od,none⟩) N cd,.slice (some ⟨gb,ob,none⟩) N cb] 60):=⟨_,rfl⟩;have Yo:aa [] w5 wA:=by rw [ZU];exact (aa.refl _ _).alloc _
   have s':wA.cell? ⟨w5.heap.size,0,none⟩=some (.slice (some ⟨gd,od,none⟩) N cd):=by rw [ZU];go_simp
   have t':wA.cell? ⟨w5.heap.size,1,none⟩=some (.slice (some ⟨gb,ob,none⟩) N cb):=by rw [ZU];go_simp
   have aM:∀W,aa [] wA W->W.cell? ⟨w5.heap.size,0,none⟩=some (.slice (some ⟨gd,od,none⟩) N cd):=fun W h=>h.was s';have aT:∀W,aa [] wA W->W.cell? ⟨w5.heap.size,1,none⟩=some (.slice (some ⟨gb,ob,none⟩) N cb):=fun W h=>h.was t';have hwA0:aa [] wA wA:=aa.refl _ _;have hsA:wA.heap.size=w5.heap.size+1:=by rw [ZU];simp
   rw [←ZU];have HA:=χ ZU;clear ZU;have u':∀W,aa [] wA W->kS W ⟨gd,od,none⟩ (aF D):=fun W h=>hF.nd.upd (Yo.trans h);have hBN:∀W,aa [] wA W->kS W ⟨gb,ob,none⟩ (aF B):=fun W h=>hF.nb.upd (Yo.trans h);have hD0:=hF.ld;have hB0:=hF.lb;have hDl:(aF D).length=N*1:=by rw [dA];omega
   have hBl:(aF B).length=N*1:=by rw [dA];omega
   have hN0:0<N:=ω;have v':N<=1000000:=by have:=hT0.out.2;omega
   have HF:=χ hF;clear hF
   go_cut [9] (fun s9 W=>∃b g c g' c',s9=.pointer (some ⟨b,0,none⟩)/\CpM wA W b g c g' c' N D B)
   case first=>
    go_region_held_law (fun W=>aa [] wA W) (exact β)
     (first|((with_reducible show @ite Prop (Region.wanted ((_:Array Oper)[3]'_) _=true) _ _ _);(refine Ca (o:=⟨some 66,_,_,_,_,_⟩) rfl (.tmp 63) (.tmp 65) 24 2 rfl (.int .i64 0) 1 8 Tryz.underlying24 LP rfl δ _ rfl (by (repeat (first|assumption|exact iV.new (by first|omega|(simp only [Κ,World.size_drew];done)|(simp only [Κ,World.size_drew];omega))|refine iV.alloc ?_ _|refine iV.drew ?_|(refine iV.upd ?_ UA ι)|(refine iV.upd ?_ huB ι)))) ⟨gd,od,none⟩ N cd (aF D) rfl hDl (u' _ β) (x9 D) hN0 v' δ ?_);intro g1 c1 wD J' UA Ot;(have hUD:aa [] wA wD:=aa.copy β UA (by first|omega|(simp only [Κ,World.size_drew];done)|(simp only [Κ,World.size_drew];omega)));(have K':=XR J' hD0);(have L':=UA.size);(try simp only [Κ,World.size_drew] at Ot L');(try (refine aa.two UA (w5.heap.size+1) (.slice none 0 0) (.slice none 0 0) ?_ ?_ ?_ ?_ ?_ ?_;(focus (go_simp;done));(focus (go_simp;done));(focus (go_simp;done));(focus (go_simp;done));(focus (first|omega|(simp;omega)));intro z0 z1 z2 z3 z4));(try (refine aa.two UA (w5.heap.size+1+1) (.slice none 0 0) (.slice none 0 0) ?_ ?_ ?_ ?_ ?_ ?_;(focus (go_simp;done));(focus (go_simp;done));(focus (go_simp;done));(focus (go_simp;done));(focus (first|omega|(simp;omega)));intro z0 z1 z2 z3 z4));(try (refine aa.two UA (w5.heap.size+1+1+1) (.slice none 0 0) (.slice none 0 0) ?_ ?_ ?_ ?_ ?_ ?_;(focus (go_simp;done));(focus (go_simp;done));(focus (go_simp;done));(focus (go_simp;done));(focus (first|omega|(simp;omega)));intro z0 z1 z2 z3 z4));(try (refine aa.two UA (wB.heap.size) (.slice none 0 0) (.slice none 0 0) ?_ ?_ ?_ ?_ ?_ ?_;(focus (go_simp;done));(focus (go_simp;done));(focus (go_simp;done));(focus (go_simp;done));(focus (first|omega|(simp;omega)));intro z0 z1 z2 z3 z4));(try (refine aa.two UA (wB.heap.size+1) (.slice none 0 0) (.slice none 0 0) ?_ ?_ ?_ ?_ ?_ ?_;(focus (go_simp;done));(focus (go_simp;done));(focus (go_simp;done));(focus (go_simp;done));(focus (first|omega|(simp;omega)));intro z0 z1 z2 z3 z4));(simp only [Act.put,List.setIfInBounds_toArray,List.set_cons_zero,List.set_cons_succ]))|((with_reducible show @ite Prop (Region.wanted ((_:Array Oper)[7]'_) _=true) _ _ _);(refine Ca (o:=⟨some 70,_,_,_,_,_⟩) rfl (.tmp 67) (.tmp 69) 26 3 rfl (.int .i64 0) 1 8 Tryz.underlying26 dQ rfl δ _ rfl (by (repeat (first|assumption|exact iV.new (by first|omega|(simp only [Κ,World.size_drew];done)|(simp only [Κ,World.size_drew];omega))|refine iV.alloc ?_ _|refine iV.drew ?_|(refine iV.upd ?_ UA ι)|(refine iV.upd ?_ huB ι)))) ⟨gb,ob,none⟩ N cb (aF B) rfl hBl (hBN _ β) (x9 B) hN0 v' δ ?_);intro g2 c2 wB M' huB NV;(have hUB:aa [] wA wB:=aa.copy β huB (by first|omega|(simp only [Κ,World.size_drew];done)|(simp only [Κ,World.size_drew];omega)));(have N':=XR M' hB0);(have hsB:=huB.size);(try simp only [Κ,World.size_drew] at NV hsB);(try (refine aa.two huB (w5.heap.size+1) (.slice none 0 0) (.slice none 0 0) ?_ ?_ ?_ ?_ ?_ ?_;(focus (go_simp;done));(focus (go_simp;done));(focus (go_simp;done));(focus (go_simp;done));(focus (first|omega|(simp;omega)));intro z0 z1 z2 z3 z4));(try (refine aa.two huB (w5.heap.size+1+1) (.slice none 0 0) (.slice none 0 0) ?_ ?_ ?_ ?_ ?_ ?_;(focus (go_simp;done));(focus (go_simp;done));(focus (go_simp;done));(focus (go_simp;done));(focus (first|omega|(simp;omega)));intro z0 z1 z2 z3 z4));(try (refine aa.two huB (w5.heap.size+1+1+1) (.slice none 0 0) (.slice none 0 0) ?_ ?_ ?_ ?_ ?_ ?_;(focus (go_simp;done));(focus (go_simp;done));(focus (go_simp;done));(focus (go_simp;done));(focus (first|omega|(simp;omega)));intro z0 z1 z2 z3 z4));(try (refine aa.two huB (wD.heap.size) (.slice none 0 0) (.slice none 0 0) ?_ ?_ ?_ ?_ ?_ ?_;(focus (go_simp;done));(focus (go_simp;done));(focus (go_simp;done));(focus (go_simp;done));(focus (first|omega|(simp;omega)));intro z0 z1 z2 z3 z4));(try (refine aa.two huB (wD.heap.size+1) (.slice none 0 0) (.slice none 0 0) ?_ ?_ ?_ ?_ ?_ ?_;(focus (go_simp;done));(focus (go_simp;done));(focus (go_simp;done));(focus (go_simp;done));(focus (first|omega|(simp;omega)));intro z0 z1 z2 z3 z4));(simp only [Act.put,List.setIfInBounds_toArray,List.set_cons_zero,List.set_cons_succ])))
    all_goals
     go_wp2
     go_meet
     have l1:=K'.lt;have l2:=N'.lt;have m1:g1≠g2:=by rcases Ot with h|h<;>rcases NV with h'|h'<;>omega
     refine ⟨_,g1,c1,g2,c2,rfl,?_⟩;have m2:wA.heap.size<=g1:=by rcases Ot with h|h<;>omega
     have m3:wA.heap.size<=g2:=by rcases NV with h|h<;>omega
     refine ⟨ω,m2,m3,m1,by rcases Ot with h|h<;>omega,by rcases NV with h|h<;>omega,γ,γ,?_,?_,β⟩
     ·repeat (first|assumption|refine IE.alloc ?_ _|refine IE.Tu ?_ _ _ (by dsimp only;rcases Ot with h|h<;>omega)|refine IE.upd ?_ huB (by simp only [ϔ];rcases Ot with h|h<;>omega))
     ·repeat (first|assumption|refine IE.alloc ?_ _|refine IE.Tu ?_ _ _ (by dsimp only;rcases NV with h|h<;>omega)|refine IE.upd ?_ UA (by simp only [ϔ];rcases NV with h|h<;>omega))
   case rest=>
    obtain ⟨b,g,c,g',c',rfl,hC⟩:=hcut;rename World=>W;have hi:=I'.out;have XX:(i:Int)<(N:Int):=ω;have BF:=Yo.trans hC.u;have p52:=BF.was oK;have p53:=BF.was o';have p54:=BF.was Bo;have p55:=BF.was p';have p56:=BF.was q';have p70:=aM W hC.u;have p71:=aT W hC.u;have pD:=(HF.out.nd.upd BF).cell (j:=i) (by have:=HF.out.ld;omega);have pB:=(HF.out.nb.upd BF).cell (j:=i) (by have:=HF.out.lb;omega);have c0:=hC.c0;have c1:=hC.c1;have O':=hC.rd.cell i ω;have P':=hC.rd.free i;have hgl:=hC.rd.lt;have BN:=hC.rb.lt;have hb:=hC.hb;have hg:=hC.hg
    have hg':=hC.hg';have hn1:=hC.n1;have hn2:=hC.n2;have IQ:=hC.n3;have hgd:=HF.out.ltd;have hgb:=HF.out.ltb;have Fs:=hC.u.size;have HC:=χ hC;have x':=PM.trans BF;clear hC u' hBN aM aT hD0 hB0 hDl hBl s' t' n' oK o' Bo p' q'
    go_upto_region 12 with (fail)
    obtain ⟨W1,hW1⟩:∃W1,W1=W.setCell ⟨g,i,none⟩ (.int .i64 x):=⟨_,rfl⟩;rw [←hW1];have hu1:aa [g] W W1:=by rw [hW1];exact (aa.refl _ _).setCell (Α σ) _
    have r1:IE 2 W1 g c (D.set i x):=by rw [hW1];exact HC.out.rd.set i x
    have r2:IE 3 W1 g' c' B:=by rw [hW1];exact HC.out.rb.Tu _ _ (by dsimp only;omega)
    have s1:fw W1 [] (.slice (some ⟨g,0,none⟩) N c) (D.set i x):=by
     have h:=fw.rH (F:=[]) r1.own σ;rwa [Ι,HF.out.ld] at h
    have s2:fw W1 [] (.slice (some ⟨g',0,none⟩) N c') B:=by
     have h:=fw.rH (F:=[]) r2.own σ;rwa [HF.out.lb] at h
    have YS:aa [] w W1:=x'.joined hu1 (fun z hz=>Β (by simp at hz;omega));have y':∀X,aa [] W1 X->Calls Tryz.prog 37 #[.agg #[.int .i64 (N:Int),.slice a n cap],.int .i64 0,.agg #[.slice (some ⟨g,0,none⟩) N c,.slice (some ⟨g',0,none⟩) N c']] X fun r w'=>r=.returned (.bool (x == D.getD i 0))/\aa [] X w':=fun X hX=>
     GI X N 0 i x (.slice a n cap) _ _ E D B (HE.out.1.upd (YS.trans hX)) hT0.out.1 ω hi hx (s1.fresh hX (F':=[]) (fun g hg=>Α hg)) (s2.fresh hX (F':=[]) (fun g hg=>Α hg)) HF.out.tree (fun e he=>(HE.out.2 e he).2)
    have z52:=fun X (h:aa [] W1 X)=>h.was (hu1.kept p52 ζ);have z53:=fun X (h:aa [] W1 X)=>h.was (hu1.kept p53 ζ);have z54:=fun X (h:aa [] W1 X)=>h.was (hu1.kept p54 ζ);have z55:=fun X (h:aa [] W1 X)=>h.was (hu1.kept p55 ζ);have z56:=fun X (h:aa [] W1 X)=>h.was (hu1.kept p56 ζ)
    have z70:=fun X (h:aa [] W1 X)=>h.was (hu1.kept p70 ζ);have z71:=fun X (h:aa [] W1 X)=>h.was (hu1.kept p71 ζ);have zD:=fun X (h:aa [] W1 X)=>h.was (hu1.kept pD ζ);have zB:=fun X (h:aa [] W1 X)=>h.was (hu1.kept pB ζ);have z':=fun X (h:aa [] W1 X)=>h.was (hu1.kept c0 ζ)
    have A':=fun X (h:aa [] W1 X)=>h.was (hu1.kept c1 ζ);have hs1:=hu1.size;have HR:=χ (ψ r1 (ψ r2 YS));have Q':=χ (show (D.set i x).set i (D.getD i 0)=D by rw [List.set_set];exact zP D i (by have:=HF.out.ld;omega));have R':=χ (Kz (y:=y) hT0.out.1 HF.out.tree hi);have S':=χ (fun h=>KS (y:=y) HF.out.tree hi h);clear hW1 r1 r2 s1 s2 p52 p53 p54 p55 p56 p70 p71 pD pB c0 c1 O' P' x' YS hu1;generalize D.getD i 0=dv at *;generalize B.getD i 0=bv at *;have hqq:((x == dv) != (x == dv))=false:=σ
    go_region_held3 (aa [] W1) (exact ν)
     (first|((go_at_call 37;(with_reducible refine (y' _ ν).mono ?_));rintro e w6 ⟨rfl,gN⟩;(have KY:aa [] W1 w6:=aa.trans ν gN)))
    have e52:=z52 w6 KY;have e53:=z53 w6 KY;have e54:=z54 w6 KY;have e55:=z55 w6 KY;have e56:=z56 w6 KY;have B':=z70 w6 KY;have Po:=z71 w6 KY;have eD:=zD w6 KY;have eB:=zB w6 KY;have b':=z' w6 KY;have d':=A' w6 KY;have r1:=HR.out.1.upd KY σ;have r2:=HR.out.2.1.upd KY σ;have rc:=r1.cell i (by rw [Ι,HF.out.ld];exact hi);have rf:=r1.free i;have C':=r2.cell i (by rw [HF.out.lb];exact hi);have D':=r2.free i;have hgl:=r1.lt;have BN:=r2.lt;have hs6:=KY.size;have e':=χ (ψ r1 (ψ r2 (HR.out.2.2.trans KY)));clear r1 r2 z52 z53 z54 z55 z56 z70 z71 zD zB z' A' y'
    go_upto_region 14 with (fail)
    go_region
    all_goals
     go_upto_region 16 with (fail)
     refine iO (fun W2=>IE 2 W2 g c D/\IE 3 W2 g' c' (B.set i y)/\aa [g,g'] w6 W2) ⟨?_,?_,?_⟩ ?_
     ·have h:=e'.out.1.set i dv;rw [Q'.out] at h
      repeat (first|assumption|refine IE.drew ?_|refine IE.Tu ?_ _ _ (by dsimp only;omega))
     ·refine IE.drew (IE.set ?_ i y);have h:=e'.out.2.1
      repeat (first|assumption|refine IE.drew ?_|refine IE.Tu ?_ _ _ (by dsimp only;omega))
     ·exact β
     intro W2 ⟨r1,r2,hu2⟩;have d52:=hu2.kept e52 ζ;have d53:=hu2.kept e53 ζ;have d54:=hu2.kept e54 ζ;have d56:=hu2.kept e56 ζ;have d71:=hu2.kept Po ζ;have dB:=hu2.kept eB ζ;have dc0:=hu2.kept b' ζ;have dc1:=hu2.kept d' ζ;have hs2:=hu2.size;have RN:aa [] w W2:=e'.out.2.2.joined hu2 (fun z hz=>Β (by simp at hz;omega));have s1:fw W2 [] (.slice (some ⟨g,0,none⟩) N c) D:=by
      have h:=fw.rH (F:=[]) r1.own σ;rwa [HF.out.ld] at h
     have s2:fw W2 [] (.slice (some ⟨g',0,none⟩) N c') (B.set i y):=by
      have h:=fw.rH (F:=[]) r2.own σ;rwa [Ι,HF.out.lb] at h
     have aX:∀ (bb:Bool),(bb=true↔mE (eN E) N 0 (passes (eN E) 0 N) D (B.set i y))->Calls Tryz.prog 37 #[.agg #[.int .i64 (N:Int),.slice a n cap],.int .i64 0,.agg #[.slice (some ⟨g,0,none⟩) N c,.slice (some ⟨g',0,none⟩) N c']] W2 fun r w'=>r=.returned (.bool bb)/\aa [] W2 w':=fun bb hbb=>
      Oi W2 N 0 i y (.slice a n cap) _ _ E D B (HE.out.1.upd RN) hT0.out.1 ω s1 s2 HF.out.tree (fun e he=>(HE.out.2 e he).2) bb hbb
     by_cases vF:mE (eN E) N 0 (passes (eN E) 0 N) D (B.set i y)
     ·have kP:=aX true ⟨fun _=>vF,fun _=>rfl⟩;have hbt:=R'.out vF;clear aX vF s1 s2 r1 r2 e52 e53 e54 e56 B' Po eD eB b' d' rc rf C' D'
      by_cases hyb:y=bv
      ·subst hyb;have e9:(y == y)=true:=σ
       go_upto_region 18 with (first|((go_at_call 37;(with_reducible refine (kP).mono ?_));rintro e w7 ⟨rfl,iG⟩;(have f53:=iG.was d53);(have f54:=iG.was d54);(have f56:=iG.was d56);(have f71:=iG.was d71);(have fB:=iG.was dB))|fail)
       go_quiet (fail)
       go_wp2;go_ret;exact ⟨rfl,RN.trans β⟩
      ·obtain ⟨q0,q1,q2⟩:=hbt.resolve_left hyb;obtain ⟨e,rfl⟩:∃e:Nat,y=e:=⟨y.toNat,ω⟩;rw [π] at q2;have E':e<E.length:=ω;have hen:e<n:=by have:=HN.out;omega
       have henI:(e:Int)<(n:Int):=ω;have g1:decide ((e:Int)≥0)=true:=Ν ω;have g2:decide (e<n)=true:=Ν hen;have g3:((e:Int) == bv)=false:=by simpa using hyb
       obtain ⟨ge,oe,rfl,hge, -,x1, -⟩:=(HE.out.1.upd RN).at e E';rw [q2] at x1;clear hbt hyb q0 q1 q2 E'
       go_upto_region 18 with (first|((go_at_call 37;(with_reducible refine (kP).mono ?_));rintro e w7 ⟨rfl,iG⟩;(have f53:=iG.was d53);(have f54:=iG.was d54);(have f56:=iG.was d56);(have f71:=iG.was d71);(have fB:=iG.was dB);(have fE:=iG.was x1))|fail)
       go_quiet (fail)
       go_wp2;go_ret;exact ⟨rfl,RN.trans β⟩
     ·have kP:=aX false ⟨fun h=>absurd h δ,fun h=>absurd h vF⟩;have hbn:=S'.out vF;have e9:(y != bv)=true:=by simpa using hbn
      clear aX vF s1 s2 r1 r2 e52 e53 e54 e56 B' Po eD eB b' d' rc rf C' D' hbn
      go_upto_region 17 with (first|((go_at_call 37;(with_reducible refine (kP).mono ?_));rintro e w7 ⟨rfl,iG⟩;(have f53:=iG.was d53);(have f54:=iG.was d54);(have f56:=iG.was d56);(have f71:=iG.was d71);(have fB:=iG.was dB))|fail)
      go_quiet (fail)
      go_wp2;go_ret;exact ⟨rfl,RN.trans β⟩
 ·have hd:qE N E.length=true\/(qE N E.length=false/\(yV kd d != 0)=true)\/(qE N E.length=false/\yV kd d=0/\bD N E=false)\/(qE N E.length=false/\yV kd d=0/\bD N E=true/\decide (N<1)=true):=by
   cases hg:qE N E.length
   ·by_cases hc:yV kd d=0
    ·cases hw:bD N E
     ·exact Β (Β (Α ⟨rfl,hc,rfl⟩))
     ·exact Β (Β (Β ⟨rfl,hc,rfl,Ν (Ϛ fun h=>hm ⟨hg,hc,hw,h⟩)⟩))
    ·exact Β (Α ⟨rfl,by simpa using hc⟩)
   ·exact Α rfl
  clear hm;generalize qE N E.length=gb at *;generalize bD N E=wb at *;generalize yV kd d=f at *;generalize E.length=n at *;rcases hd with rfl|⟨rfl,h1⟩|⟨rfl,rfl,rfl⟩|⟨rfl,rfl,rfl,h1⟩
  all_goals
   go_enter Tryz.func14,Tryz.ntmps14
   go_wp2_with (first|((go_at_call 35;(with_reducible refine (zg _).mono ?_));rintro e w1 ⟨rfl,hu1⟩;(have bL:w1.cell? ⟨w.heap.size,0,none⟩=some (.int .i64 kd):=hu1.was γ);(have bS:w1.cell? ⟨w.heap.size,1,none⟩=some (.int .i64 d):=hu1.was γ);(have dJ:w1.cell? ⟨w.heap.size+1,0,none⟩=some (.int .i64 N):=hu1.was γ);(have fA:w1.cell? ⟨w.heap.size+1,1,none⟩=some (.slice a n cap):=hu1.was γ);(have fC:w1.cell? ⟨w.heap.size+1+1,0,none⟩=some (.int .i64 V):=hu1.was γ);(have fD:w1.cell? ⟨w.heap.size+1+1,1,none⟩=some (.int .i64 x):=hu1.was γ);(have q16:w1.cell? ⟨w.heap.size+1+1,2,none⟩=some (.int .i64 y):=hu1.was γ);(have hw1:aa [] w w1:=aa.trans β hu1))|((go_at_call 36;(with_reducible refine (kg _).mono ?_));rintro e w2 ⟨rfl,hu2⟩;(have fF:=hu2.was bL);(have fG:=hu2.was bS);(have q22:=hu2.was dJ);(have gV:=hu2.was fA);(have q24:=hu2.was fC);(have gW:=hu2.was fD);(have gY:=hu2.was q16);(have hw2:=hw1.trans hu2))|((go_at_call 18;(with_reducible refine (kc _).mono ?_));rintro e w3 ⟨rfl,hu3⟩;(have ic:=hu3.was fF);(have ik:=hu3.was fG);(have q32:=hu3.was q22);(have iq:=hu3.was gV);(have jH:=hu3.was q24);(have jI:=hu3.was gW);(have oI:=hu3.was gY);(have hw3:=hw2.trans hu3))|((go_at_call 32;(with_reducible refine (kw _ hw3).mono ?_));rintro e w4 ⟨rfl,fP⟩;(have f':=fP.was ic);(have H':=fP.was ik);(have i':=fP.was q32);(have j':=fP.was iq);(have k':=fP.was jH);(have l':=fP.was jI);(have m':=fP.was oI);(have hw4:=hw3.trans fP))|fail)
   go_ret;exact ⟨rfl,by first|exact hw4|exact hw3|exact hw2⟩
set_option maxRecDepth 100000 in
open Go.ChangeShapes Go.ChangeAt Go.WideShapes in
theorem DW {H:Type} {enc:TypeId×Value->H} {W:World} {v:Value} {d:DataW H} {p:List MemPlace} {base:Nat} {sp:Nat->Bool}
  (ho:Value.okWide Tryz.prog W .any base 77 v) (h:DataW.Trod enc Tryz.prog W 0 sp true 77 v d p):∃a b c:Int,v=.agg #[.int .i64 a,.int .i64 b,.int .i64 c]/\(-9223372036854775808<=b/\b<=9223372036854775807):=by
 obtain ⟨v0,v1,v2,y0,y1,y2,n,rfl,_,_,f0,f1,f2⟩:=Go.Joins.open_agg3 Tryz.underlying77 (by kernel_rfl) (show Tryz.prog.cellsOf 77=3 by kernel_rfl) ho h;obtain ⟨a,e0,_,wa⟩:=DataW.trod_int Tryz.underlying3 f0;obtain ⟨b,e1,_,wb⟩:=DataW.trod_int Tryz.underlying2 f1;obtain ⟨c,e2,_,wc⟩:=DataW.trod_int Tryz.underlying3 f2;simp at e0 e1 e2;subst e0 e1 e2;exact ⟨a,b,c,rfl,by simp [Lit.wf,IntKind.min,IntKind.max,IntKind.signed,IntKind.bits] at wb;omega⟩
end Go.Proofs.YtklibcncmbofpaaGreat
