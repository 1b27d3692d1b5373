/-
  Lemmas for ProofHolds: FbS, FbU, FbV, Fb4, Fb5. Conditions: those of each lemma.
-/
import Derived.Test.YtklibcncmbofpaaGreatR22
set_option linter.all false
set_option maxHeartbeats 8000000
set_option maxRecDepth 10000
namespace Go.Proofs.YtklibcncmbofpaaGreat
def zO(l:List Nat)(x:Nat):List Nat:=(l.dropWhile (fun z=>z != x)).tail++l.takeWhile (fun z=>z != x)
theorem Nv{l:List Nat}{x:Nat}(hx:x∈l)(hn:l.Nodup):∃a b,l=a++x::b/\x∉a/\x∉b/\l.takeWhile (fun z=>z != x)=a/\(l.dropWhile (fun z=>z != x)).tail=b:=by
 obtain⟨a,b,rfl⟩:=List.append_of_mem hx;rw[θ,List.nodup_cons]at hn;have h1:x∉a:=fun h=>hn.2.2 x h x σ rfl;have hp:∀z,z∈a->(z != x)=true:=fun z hz=>by simp;intro e;subst e;exact h1 hz
 refine⟨a,b,rfl,h1,hn.2.1.1,?_,?_⟩
 ·rw[List.takeWhile_append_of_pos hp,List.takeWhile_cons_of_neg σ];simp
 ·rw[List.dropWhile_append_of_pos hp,List.dropWhile_cons_of_neg σ];rfl
theorem J9{l:List Nat}{x:Nat}(hx:x∈l)(hn:l.Nodup):∃a b,l=a++x::b/\zO l x=b++a/\x∉a/\x∉b:=by
 obtain⟨a,b,h1,h2,h3,h4,h5⟩:=Nv hx hn;exact⟨a,b,h1,by unfold zO;rw[h4,h5],h2,h3⟩
def fw(h x:Nat)(G:FG):FG:=
 { (match G.R h with|[]=>prt G x|t::_=>O7 (prt G x) t x)with
  up:=ak G.up x (-1),mr:=ak G.mr x false,K:=ak G.K (G.up x).toNat (zO (G.K (G.up x).toNat) x),R:=match G.R h with|[]=>G.R|t::s=>ak G.R h (t::x::s) }
def rO:Nat->Nat->Nat->FG->FG
 | 0,_,_,G=>G
 | f+1,h,x,G=>if G.up x=-1 then G else if G.mr x=false then { G with mr:=ak G.mr x true } else rO f h (G.up x).toNat (fw h x G)
def marks(n:Nat)(G:FG):Nat:=((List.range n).filter G.mr).length
theorem Ad{p:Nat->Bool}{x:Nat}{b:Bool}:∀l:List Nat,l.Nodup->x∈l->(l.filter (ak p x b)).length+(if p x then 1 else 0)=(l.filter p).length+(if b then 1 else 0)
 | [],_,h=>by cases h
 | y::t,hn,hx=>by
  rw[List.nodup_cons]at hn
  by_cases e:y=x
  ·subst e;have hc:t.filter (ak p y b)=t.filter p:=List.filter_congr (fun z hz=>bg _ _ (fun e=>hn.1 (e▸hz)));have h1:ak p y b y=b:=bQ _ _ _;rw[List.filter_cons,List.filter_cons,h1,hc];cases b<;>cases p y<;>simp
  ·have ih:=Ad (p:=p) (b:=b) t hn.2 (by rcases ρ.1 hx with h|h;exact absurd h.symm e;exact h);have h1:ak p x b y=p y:=bg _ _ e;rw[List.filter_cons,List.filter_cons,h1];cases p y<;>simp<;>omega
theorem tQ{n:Nat}{G:FG}{x:Nat}{b:Bool}{mr:Nat->Bool}(hx:x<n)(hm:mr=ak G.mr x b)(G':FG)(e:G'.mr=mr):marks n G'+(if G.mr x then 1 else 0)=marks n G+(if b then 1 else 0):=by
 unfold marks;rw[e,hm];exact Ad _ List.nodup_range (by simpa using hx)
section
variable {n:Nat}{G:FG}{bN:Nat->Int}{L M:Nat->Nat->Prop}{ex:Nat->Nat}
theorem Am(H:FF n G bN L ex)(R:FR n G bN M none){h x p t:Nat}{s:List Nat}(hR:G.R h=t::s)(hx:x<n)(ux:G.up x=p)(hpx:p≠x)(hh:bN x=h)(hL:M t x) :
  FF n (fw h x G) bN L (fun c=>if c=p then ex c+1 else ex c)/\FR n (fw h x G) bN M none/\(fw h x G).up=ak G.up x (-1)/\(fw h x G).mr=ak G.mr x false/\(fw h x G).K=ak G.K p (zO (G.K p) x)/\
   (fw h x G).R=ak G.R h (t::x::s)/\(∃a b,G.K p=a++x::b/\zO (G.K p) x=b++a)/\G.nx x=(zO (G.K p) x).headD x:=by
 obtain⟨hp,hxk⟩:=H.above hx ux;obtain⟨q1,q2,q3⟩:=R.all h;obtain⟨h1,ht,ut,htm⟩:=(q2 t).1 (by rw[hR];simp);have Mo:=H.ring p hp;obtain⟨a,b,eK,eA,xa,xb⟩:=J9 hxk Mo.nd;have hkp:∀z,z∈G.K p->z<n/\G.up z=p:=fun z hz=>H.kid p z hp hz;have Qz:Ring G.nx (x::(b++a)):=by rw[eK]at Mo;exact Ring.Xi (a:=a) (b:=x::b) Mo
 have hmem:∀z,z∈x::(b++a)↔z∈G.K p:=fun z=>by rw[eK];simp;grind
 have hall:∀z,z∈x::(b++a)->z<n:=fun z hz=>(hkp z ((hmem z).1 hz)).1;obtain⟨p1,p2⟩:=H.rg.part Qz hall;have hpm:G.pv x∈G.K p:=by
  rw[←hmem];rcases List.eq_nil_or_concat (b++a)with e|⟨c,y,e⟩
  ·rw[e]at Qz;have e1:=jB.1 Qz;have:=H.rg.pn x hx;rw[e1]at this;rw[this];simp
  ·rw[List.concat_eq_append]at e;have:=H.rg.last (x:=x) (y:=y) (a:=c) (by rw[List.cons_append,←e];exact Qz) (hall y (by rw[e];simp));rw[this,e];simp
 have hpv:=hkp _ hpm;have htx:t≠x:=fun e=>by subst e;omega
 have htp:t≠G.pv x:=fun e=>by rw[←e]at hpv;omega
 have ux':(fw h x G).up=ak G.up x (-1):=rfl;have mx':(fw h x G).mr=ak G.mr x false:=rfl;have K':(fw h x G).K=ak G.K p (b++a):=by show ak G.K (G.up x).toNat _=_;rw[ux,π,eA]
 have R':(fw h x G).R=ak G.R h (t::x::s):=by show(match G.R h with|[]=>G.R|t::s=>ak G.R h (t::x::s))=_;rw[hR]
 have nx':(fw h x G).nx=dF (dF G.nx x (G.pv x)) t x:=by unfold fw;rw[hR];rfl
 have pv':(fw h x G).pv=jF (dF G.nx x (G.pv x)) (jF G.nx G.pv x (G.pv x)) t x:=by unfold fw;rw[hR];rfl
 have far:∀l,Ring G.nx l->x∉l->G.pv x∉l->t∉l->Ring (fw h x G).nx l:=fun l hl e1 e2 e3=>by rw[nx'];exact(hl.oD e1 e2).oD e3 e1
 have Ng:∀y,y≠x->(fw h x G).up y=G.up y:=fun y hy=>by rw[ux',bg _ _ hy]
 have Y6:(fw h x G).up x=-1:=by rw[ux',bQ]
 have Kp:(fw h x G).K p=b++a:=by rw[K',bQ]
 have Kn:∀y,y≠p->(fw h x G).K y=G.K y:=fun y hy=>by rw[K',bg _ _ hy]
 have YK:∀y,y<n->y≠p->x∉G.K y:=fun y hy hyp hm=>hyp (by have:=(H.kid y x hy hm).2;omega);have hpos:(0:Int)<bN p/\(0:Int)<bN x:=by
  have:=H.home x p hx ux;exact⟨by rw[←this.1];exact this.2,this.2⟩
 have hlen:(G.K p).length=(b++a).length+1:=by rw[eK];simp;omega
 have mono:∀c,c≠x->(G.K c).length+(if G.mr c then 1 else 0)+ex c<=((fw h x G).K c).length+(if (fw h x G).mr c then 1 else 0)+(if c=p then ex c+1 else ex c):=fun c hc=>by
  rw[mx',bg _ _ hc]
  by_cases e:c=p
  ·rw[e,Kp,hlen,if_pos rfl];omega
  ·rw[Kn c e,if_neg e];omega
 refine⟨⟨?_,fun y z hy hz=>?_,fun y hy=>?_,fun y hy=>?_,fun y q hy hu=>?_,fun y q hy hu=>?_,fun y hy h0=>?_,fun y hy hu=>?_,fun y d hy=>?_⟩,⟨fun g _=>?_,fun g y _=>?_,fun g t' s' _ hR'=>?_⟩,ux',mx',by rw[eA];exact K',R',⟨a,b,eK,eA⟩,by rw[eA];exact(jd.1 Qz).2.1⟩
 ·rw[nx',pv'];exact(H.rg.swap hx hpv.1).swap ht hx
 ·by_cases e:y=p
  ·subst e;rw[Kp]at hz;have hzk:z∈G.K y:=(hmem z).1 (by simp at hz⊢;exact Or.inr hz);have hzx:z≠x:=fun e=>by subst e;simp at hz;rcases hz with h|h;exact xb h;exact xa h
   rw[Ng z hzx];exact H.kid y z hy hzk
  ·rw[Kn y e]at hz;have hzx:z≠x:=fun e2=>YK y hy e (e2▸hz);rw[Ng z hzx];exact H.kid y z hy hz
 ·by_cases e:y=x
  ·subst e;exact Or.inl Y6
  ·rw[Ng y e];rcases H.Gu y hy with e1|⟨q,hq,e1,e2⟩
   ·exact Or.inl e1
   ·refine Or.inr ⟨q,hq,e1,?_⟩
    by_cases e3:q=p
    ·subst e3;rw[Kp];rcases ρ.1 ((hmem y).2 e2)with e4|e4
     ·exact absurd e4 e
     ·exact e4
    ·rw[Kn q e3];exact e2
 ·by_cases e:y=p
  ·subst e;rw[Kp,nx'];exact p2.oD (fun hm=>by have:=(hkp t ((hmem t).1 (by simp at hm⊢;exact Or.inr hm))).2;omega) (fun hm=>by simp at hm;rcases hm with h|h;exact xb h;exact xa h)
  ·rw[Kn y e];exact far _ (H.ring y hy) (YK y hy e) (fun hm=>e (by have:=(H.kid y _ hy hm).2;omega)) (H.sW hy ut)
 ·have hyx:y≠x:=fun e=>by subst e;rw[Y6]at hu;omega
  rw[Ng y hyx]at hu;exact H.home y q hy hu
 ·have hyx:y≠x:=fun e=>by subst e;rw[Y6]at hu;omega
  rw[Ng y hyx]at hu;exact H.ord y q hy hu
 ·obtain⟨a1,a2,a3⟩:=H.alone y hy h0;have hyx:y≠x:=fun e=>h0 (by rw[e];exact hpos.2);have hyp:y≠p:=fun e=>h0 (by rw[e];exact hpos.1);have hyv:y≠G.pv x:=fun e=>by rw[←e]at hpv;omega
  have hyt:y≠t:=fun e=>h0 (by rw[e,htm];omega);exact⟨by rw[Ng y hyx];exact a1,by rw[Kn y hyp];exact a2,by rw[nx',jf hyt hyx,jf hyx hyv];exact a3⟩
 ·rw[mx']
  by_cases e:y=x
  ·rw[e,bQ]
  ·rw[Ng y e]at hu;rw[bg _ _ e];exact H.free y hy hu
 ·by_cases e:y=p
  ·subst e;rw[Kp];have m1:few (fw h x G) (fun c=>if c=y then ex c+1 else ex c) (b++a) d<=few G ex (b++a) d:=Ir d (fun c hc=>mono c (fun e=>by subst e;simp at hc;rcases hc with h|h;exact xb h;exact xa h));have m2:few G ex (G.K y) d=few G ex (x::(b++a)) d:=Ia _ _ (by rw[eK];exact List.perm_append_comm (l₁:=a) (l₂:=x::b)) d;rw[IK]at m2;have m3:=H.cnt y d hy;omega
  ·rw[Kn y e];exact Nat.le_trans (Ir d (fun c hc=>mono c (fun e2=>YK y hy e (e2▸hc)))) (H.cnt y d hy)
 ·obtain⟨r1,r2,_⟩:=R.all g
  by_cases e:g=h
  ·subst e;rw[R',bQ,nx'];have hs1:Ring (dF G.nx x (G.pv x)) (t::s):=by
    rw[←hR];exact r1.oD (fun hm=>by have:=((r2 x).1 hm).2.2.1;omega) (fun hm=>by have:=((r2 _).1 hm).2.2.1;omega)
   exact Ring.join hs1 p1 (fun z hz hm=>by
    simp at hm;subst hm;have:=((r2 z).1 (by rw[hR];exact hz)).2.2.1
    omega)
  ·rw[R',bg _ _ e];exact far _ r1 (fun hm=>by have:=((r2 x).1 hm).2.2.1;omega) (fun hm=>by have:=((r2 _).1 hm).2.2.1;omega) (fun hm=>e (by have:=((r2 t).1 hm).2.2.2;omega))
 ·rw[R'];have old:=(R.all g).2.1 y
  by_cases e:g=h
  ·subst e;rw[bQ];have:y∈t::x::s↔y=x\/y∈G.R g:=by rw[hR];simp;grind
   rw[this,old]
   by_cases e2:y=x
   ·subst e2;simp[Y6,h1,hx,hh]
   ·rw[Ng y e2];simp[e2,zz]
  ·rw[bg _ _ e,old]
   by_cases e2:y=x
   ·subst e2;constructor
    ·rintro⟨_,_,a2,_⟩;omega
    ·rintro⟨_,_,_,a3⟩;exact absurd (show g=h by omega) e
   ·rw[Ng y e2];exact Iff.rfl
 ·rw[R']at hR'
  by_cases e:g=h
  ·subst e;rw[bQ]at hR';have e1:t=t':=by injection hR'
   have e2:x::s=s':=by injection hR'
   subst e1 e2;intro y hy;rcases ρ.1 hy with rfl|hy
   ·exact hL
   ·exact q3 t s hR y hy
  ·rw[bg _ _ e]at hR';exact(R.all g).2.2 t' s' hR'
theorem Rj(irr:∀a,¬L a a){h t:Nat}:∀ (f p:Nat) (s:List Nat) (G:FG),FF n G bN L (fun c=>if c=p then 1 else 0)->FR n G bN M none->G.R h=t::s->p<n->bN p=h->1<=h->(∀y,y<n->bN y=h->y≠t->M t y)->marks n G<f->
  FF n (rO f h p G) bN L (fun _=>0)/\FR n (rO f h p G) bN M none/\(∃s',(rO f h p G).R h=t::s')/\(∀g,g≠h->(rO f h p G).R g=G.R g)/\
   (G.R h).length<=((rO f h p G).R h).length/\((rO f h p G).R h).length+marks n (rO f h p G)<=(G.R h).length+marks n G+1/\marks n (rO f h p G)<=marks n G+1/\(∀y,G.up y=-1->(rO f h p G).up y=-1)
 | 0,p,s,G,H,R,hR,hp,hh,h1,hf,hm=>ω
 | f+1,p,s,G,H,R,hR,hp,hh,h1,hf,hm=>by
  unfold rO
  by_cases e:G.up p=-1
  ·rw[if_pos e];refine⟨⟨H.rg,H.kid,H.Gu,H.ring,H.home,H.ord,H.alone,H.free,fun x d hx=>?_⟩,R,⟨s,hR⟩,fun _ _=>rfl,Nat.le_refl _,ω,ω,fun _ h=>h⟩
   rw[uI (G:=G) (ex:=fun c=>if c=p then 1 else 0) d (fun c hc=>by
    have hcp:c≠p:=fun e2=>H.sW hx e (e2▸hc)
    rw[if_neg hcp])]
   exact H.cnt x d hx
  ·rw[if_neg e]
   by_cases e2:G.mr p=false
   ·rw[if_pos e2];have hmk:=tQ (G:=G) (b:=true) hp rfl { G with mr:=ak G.mr p true } rfl;rw[e2]at hmk;simp only[Bool.false_eq_true,if_false,if_true]at hmk;refine⟨⟨H.rg,H.kid,H.Gu,H.ring,H.home,H.ord,H.alone,fun y hy hu=>?_,fun x d hx=>?_⟩,⟨R.ring,R.mem,R.top⟩,⟨s,hR⟩,fun _ _=>rfl,Nat.le_refl _,by show(G.R h).length+_<=_;omega,by omega,fun _ h=>h⟩
    ·have hyp:y≠p:=fun e3=>e (e3▸hu)
     show ak G.mr p true y=false
     rw[bg _ _ hyp];exact H.free y hy hu
    ·have:=uI (G:=G) (G':={ G with mr:=ak G.mr p true }) (ex:=fun c=>if c=p then 1 else 0) (Yc:=fun _=>0) (l:=G.K x) d (fun c hc=>by
      by_cases e3:c=p
      ·subst e3
       show(G.K c).length+(if ak G.mr c true c=true then 1 else 0)+0=_
       rw[bQ,e2];simp
      ·show(G.K c).length+(if ak G.mr p true c=true then 1 else 0)+0=_
       rw[bg _ _ e3,if_neg e3])
     show few { G with mr:=ak G.mr p true } (fun _=>0) (G.K x) d<=d
     rw[this];exact H.cnt x d hx
   ·rw[if_neg e2];obtain⟨q,hq,uq,hpq⟩:=(H.Gu p hp).resolve_left e;rw[uq,π];have hqp:q≠p:=fun e3=>by subst e3;exact irr _ (H.ord q q hp uq)
    have htp:p≠t:=fun e3=>by
     subst e3;have:=((R.all h).2.1 p).1 (by rw[hR];simp);exact e this.2.2.1
    obtain⟨o1,o2,o3,o4,o5,o6,o7,_⟩:=Am H R hR hp uq hqp hh (hf p hp hh htp);have hqh:bN q=h:=by have:=(H.home p q hp uq).1;omega
    have hmk:=tQ (G:=G) (b:=false) hp rfl (fw h p G) o4;have e2':G.mr p=true:=by simpa using e2
    rw[e2']at hmk;simp only[Bool.false_eq_true,if_false,if_true]at hmk;have ZA:FF n (fw h p G) bN L (fun c=>if c=q then 1 else 0):=by
     refine⟨o1.rg,o1.kid,o1.Gu,o1.ring,o1.home,o1.ord,o1.alone,o1.free,fun x d hx=>?_⟩;have ZX:(fw h p G).up p=-1:=by rw[o3,bQ]
     rw[uI (G:=fw h p G) (ex:=fun c=>if c=q then (if c=p then 1 else 0)+1 else if c=p then 1 else 0) d (fun c hc=>by
      have hcp:c≠p:=fun e3=>o1.sW hx ZX (e3▸hc)
      rw[if_neg hcp])]
     exact o1.cnt x d hx
    have oR:(fw h p G).R h=t::p::s:=by rw[o6,bQ]
    obtain⟨r1,r2,r3,r4,r5,r6,r7,r8⟩:=Rj irr f q (p::s) (fw h p G) ZA o2 oR hq hqh h1 hf ω;rw[oR]at r5 r6;rw[hR];simp only[List.length_cons]at r5 r6⊢;refine⟨r1,r2,r3,fun g hg=>by rw[r4 g hg,o6,bg _ _ hg],ω,ω,ω,fun y hy=>r8 y ?_⟩;have hyp:y≠p:=fun e3=>e (e3▸hy);rw[o3,bg _ _ hyp];exact hy
end
def kg(n h x:Nat)(G:FG):FG:=if G.up x=-1 then G else rO (marks n (fw h x G)+1) h (G.up x).toNat (fw h x G)
def JL(h x:Nat)(G:FG):FG:={ G with R:=ak G.R h (x::zO (G.R h) x) }
def fP(A':NS)(h x:Nat)(G:FG):FG:=if G.up x≠-1/\pG A' x (G.up x).toNat=true then kg A'.cs.length h x G else G
def lI(A':NS)(h x:Nat)(G:FG):FG:=if mG ((fP A' h x G).R h)≠x/\pG A' x (mG ((fP A' h x G).R h)).toNat=true then JL h x (fP A' h x G)else fP A' h x G
def yf(A':NS)(h x:Nat)(G:FG):Nat:=(if G.up x=-1 then 0 else 1)+(if mG ((fP A' h x G).R h)=x then 0 else 1)
def Qu(A':NS)(h x:Nat)(G:FG):FG:=iQ (pG A') h [x] G
section
variable {A:NS}{G:FG}
theorem FR.imp{n:Nat}{bN:Nat->Int}{L M:Nat->Nat->Prop}{g:Option Nat}(R:FR n G bN L g)(h:∀g t s,G.R g=t::s->∀y,y∈s->L t y->M t y):FR n G bN M g:=
 ⟨R.ring,R.mem,fun g t s hg hR y hy=>h g t s hR y hy (R.top g t s hg hR y hy)⟩
theorem Lr(I:zt A G){x h:Nat}{k s0:Int}(hB:jg A x k s0=true)(hx:x<A.cs.length)(hh:(A.c x).i=h)(h1:1<=h) :
  ∃t s,G.R h=t::s/\(∀p:Nat,G.up x=p->p≠x/\
   FF A.cs.length (fw h x G) (fun y=>(A.c y).i) (bZ (ay A x k s0)) (fun c=>if c=p then 0+1 else 0)/\FR A.cs.length (fw h x G) (fun y=>(A.c y).i) (fun a y=>y≠x->bZ (ay A x k s0) a y) none/\(fw h x G).R h=t::x::s/\
   (∀y,y<A.cs.length->(A.c y).i=h->y≠t->y≠x->bZ (ay A x k s0) t y))/\
  FF A.cs.length (fP (ay A x k s0) h x G) (fun y=>(A.c y).i) (bZ (ay A x k s0)) (fun _=>0)/\FR A.cs.length (fP (ay A x k s0) h x G) (fun y=>(A.c y).i) (fun a y=>y≠x->bZ (ay A x k s0) a y) none/\
   (∃s',(fP (ay A x k s0) h x G).R h=t::s')/\(∀g,g≠h->(fP (ay A x k s0) h x G).R g=G.R g)/\((fP (ay A x k s0) h x G).up x=-1\/(t≠x/\bZ (ay A x k s0) t x))/\
   (G.R h).length<=((fP (ay A x k s0) h x G).R h).length/\((fP (ay A x k s0) h x G).R h).length+marks A.cs.length (fP (ay A x k s0) h x G)<=(G.R h).length+marks A.cs.length G+2/\marks A.cs.length (fP (ay A x k s0) h x G)<=marks A.cs.length G+1:=by
 have hc:=rD hB hx;have hle:=uu hB;rw[π]at hle;have low:∀a y,y≠x->bZ A a y->bZ (ay A x k s0) a y:=fun a y hy hl=>by
  by_cases e:a=x
  ·subst e;exact l9 hl (by rw[hc,if_neg hy]) (by rw[hc,if_pos rfl];exact hle)
  ·exact(fJ (by rw[hc,if_neg e]) (by rw[hc,if_neg hy])).2 hl
 obtain⟨t,s,hR⟩:∃t s,G.R h=t::s:=by
  cases hRR:G.R h with
  | nil=>
   have h2:=I.RG hRR;have h3:=(jQ (A:=A) (h:=(h:Int)) ω).1 h2;have:0<dO A (h:Int):=fH.2 ⟨x,hx,hh,ω⟩;omega
  | cons t s=>exact⟨t,s,rfl⟩
 have xS:∀y,y<A.cs.length->(A.c y).i=h->y≠t->y≠x->bZ (ay A x k s0) t y:=fun y hy hyh hyt hyx=>low t y hyx (I.first hR hy hyh hyt);have F':FF A.cs.length G (fun y=>(A.c y).i) (fun a y=>y≠x->bZ (ay A x k s0) a y) (fun _=>0):=I.ff.mono (fun y p hy hu ho=>⟨(I.ff.home y p hy hu).1,(I.ff.home y p hy hu).2,fun hyx=>low p y hyx ho⟩) I.ff.alone;have R':FR A.cs.length G (fun y=>(A.c y).i) (fun a y=>y≠x->bZ (ay A x k s0) a y) none:=I.fr.imp (fun g t s hR y hy hl hyx=>low t y hyx hl)
 have off:∀p:Nat,G.up x=p->p≠x/\FF A.cs.length (fw h x G) (fun y=>(A.c y).i) (bZ (ay A x k s0)) (fun c=>if c=p then 0+1 else 0)/\FR A.cs.length (fw h x G) (fun y=>(A.c y).i) (fun a y=>y≠x->bZ (ay A x k s0) a y) none/\(fw h x G).R h=t::x::s/\
   ((fw h x G).up=ak G.up x (-1)/\(fw h x G).mr=ak G.mr x false/\∀g,g≠h->(fw h x G).R g=G.R g):=fun p hp=>by
  have hpx:p≠x:=fun e=>by subst e;exact wB (I.ff.ord p p hx hp)
  obtain⟨o1,o2,o3,o4,o5,o6,_,_⟩:=Am F' R' hR hx hp hpx hh (fun h=>absurd rfl h);refine⟨hpx,o1.mono (fun y q hy hu ho=>⟨(o1.home y q hy hu).1,(o1.home y q hy hu).2,ho (fun e=>?_)⟩) o1.alone,o2,by rw[o6,bQ],o3,o4,fun g hg=>by rw[o6,bg _ _ hg]⟩;subst e;rw[o3,bQ]at hu;omega
 refine⟨t,s,hR,fun p hp=>⟨(off p hp).1,(off p hp).2.1,(off p hp).2.2.1,(off p hp).2.2.2.1,xS⟩,?_⟩
 by_cases hup:G.up x=-1
 ·have e:fP (ay A x k s0) h x G=G:=by unfold fP;rw[if_neg (by simp[hup])]
  rw[e];exact⟨F'.mono (fun y p hy hu ho=>⟨(F'.home y p hy hu).1,(F'.home y p hy hu).2,ho (fun e=>by subst e;omega)⟩) F'.alone,R',⟨s,hR⟩,fun _ _=>rfl,Or.inl hup,Nat.le_refl _,ω,ω⟩
 ·obtain⟨p,hp,ux,_⟩:=(I.ff.Gu x hx).resolve_left hup;have hph:(A.c p).i=h:=by have:(A.c x).i=(A.c p).i:=(I.ff.home x p hx ux).1;omega
  cases hl:pG (ay A x k s0) x (G.up x).toNat with
  | true=>
   have e:fP (ay A x k s0) h x G=kg A.cs.length h x G:=by unfold fP;rw[if_pos ⟨hup,hl⟩,fE]
   rw[e];obtain⟨o0,o1,o2,o3,o4,o5,o6⟩:=off p ux;have hL:bZ (ay A x k s0) x p:=by rw[ux,π]at hl;unfold pG at hl;simpa using hl
   obtain⟨r1,r2,r3,r4,r5,r6,r7,r8⟩:=by
    have e':kg A.cs.length h x G=rO (marks A.cs.length (fw h x G)+1) h p (fw h x G):=by unfold kg;rw[ux,if_neg ω,π]
    have:=Rj (M:=fun a y=>y≠x->bZ (ay A x k s0) a y) (L:=bZ (ay A x k s0)) (fun a=>wB) (marks A.cs.length (fw h x G)+1) p (x::s) (fw h x G) (by simpa using o1) o2 o3 hp hph h1 (fun y hy hyh hyt hyx=>xS y hy hyh hyt hyx) ω;rw[←e']at this;exact this
   have hmk:=tQ (G:=G) (b:=false) hx rfl (fw h x G) o5;simp only[Bool.false_eq_true,if_false]at hmk;rw[o3]at r5 r6;rw[hR];simp only[List.length_cons]at r5 r6⊢;exact⟨r1,r2,r3,fun g hg=>(r4 g hg).trans (o6 g hg),Or.inl (r8 x (by rw[o4,bQ])),ω,ω,ω⟩
  | false=>
   have e:fP (ay A x k s0) h x G=G:=by unfold fP;rw[if_neg (by simp[hl])]
   rw[e];have hpx:p≠x:=(off p ux).1;have hnl:bZ (ay A x k s0) p x:=by
    rw[ux,π]at hl;unfold pG at hl;have:¬bZ (ay A x k s0) x p:=by simpa using hl
    exact(je hpx).resolve_right this
   have htx:t≠x:=fun e=>by
    subst e;have:=(I.qm hR).2.2.2.1;omega
   refine⟨F'.mono (fun y q hy hu ho=>⟨(F'.home y q hy hu).1,(F'.home y q hy hu).2,?_⟩) F'.alone,R',⟨s,hR⟩,fun _ _=>rfl,Or.inr ⟨htx,?_⟩,Nat.le_refl _,ω,ω⟩
   ·by_cases e2:y=x
    ·subst e2;obtain rfl:q=p:=ω;exact hnl
    ·exact ho e2
   ·by_cases e2:p=t
    ·subst e2;exact hnl
    ·exact bV (xS p hp hph e2 hpx) hnl
theorem YF(I:zt A G){x h:Nat}{k s0:Int}(hB:jg A x k s0=true)(hx:x<A.cs.length)(hh:(A.c x).i=h)(h1:1<=h) :
  zt (ay A x k s0) (lI (ay A x k s0) h x G)/\(∀g,g≠h->(lI (ay A x k s0) h x G).R g=G.R g)/\(G.R h).length<=((lI (ay A x k s0) h x G).R h).length/\
   ((lI (ay A x k s0) h x G).R h).length+marks A.cs.length (lI (ay A x k s0) h x G)<=(G.R h).length+marks A.cs.length G+2/\marks A.cs.length (lI (ay A x k s0) h x G)<=marks A.cs.length G+1:=by
 obtain⟨t,s,hR,_,f1,f2,⟨s',Gd⟩,f4,f5,f6,f7,f8⟩:=Lr I hB hx hh h1;have hi:∀y,((ay A x k s0).c y).i=(A.c y).i:=iM hB hx;have hl:=fE A x k s0;obtain⟨q1,q2,q3⟩:=f2.all h;rw[Gd]at q1;have hnd:=List.nodup_cons.1 q1.nd;have hF:∀G',FF A.cs.length G' (fun y=>(A.c y).i) (bZ (ay A x k s0)) (fun _=>0)->FF (ay A x k s0).cs.length G' (fun y=>((ay A x k s0).c y).i) (bZ (ay A x k s0)) (fun _=>0):=fun G' H=>by
  rw[hl,show(fun y=>((ay A x k s0).c y).i)=(fun y=>(A.c y).i)from funext hi];exact H
 have hRR:∀G',FR A.cs.length G' (fun y=>(A.c y).i) (bZ (ay A x k s0)) none->FR (ay A x k s0).cs.length G' (fun y=>((ay A x k s0).c y).i) (bZ (ay A x k s0)) none:=fun G' H=>by
  rw[hl,show(fun y=>((ay A x k s0).c y).i)=(fun y=>(A.c y).i)from funext hi];exact H
 have xg:∀g,g≠h->x∉(fP (ay A x k s0) h x G).R g:=fun g hg hm=>by
  have:=(((f2.all g).2.1 x).1 hm).2.2.2;simp only at this;omega
 by_cases hc:mG ((fP (ay A x k s0) h x G).R h)≠x/\pG (ay A x k s0) x (mG ((fP (ay A x k s0) h x G).R h)).toNat=true
 ·have e:lI (ay A x k s0) h x G=JL h x (fP (ay A x k s0) h x G):=by unfold lI;rw[if_pos hc]
  rw[e];rw[Gd]at hc;have htx:t≠x:=fun e2=>hc.1 (by rw[e2];rfl);have hlt:bZ (ay A x k s0) x t:=by
   have:=hc.2;unfold pG mG at this;simpa using this
  have ux:(fP (ay A x k s0) h x G).up x=-1:=f5.resolve_right (fun h'=>qy hlt h'.2);have hm:x∈t::s':=by rw[←Gd];exact(q2 x).2 ⟨h1,hx,ux,hh⟩
  obtain⟨a,b,e1,e2,xa,xb⟩:=J9 hm q1.nd;have eR:(JL h x (fP (ay A x k s0) h x G)).R h=x::(b++a):=by
   show ak _ h _ h=_
   rw[bQ,Gd,e2]
  have eR':∀g,g≠h->(JL h x (fP (ay A x k s0) h x G)).R g=(fP (ay A x k s0) h x G).R g:=fun g hg=>bg _ _ hg;have hmm:∀z,z∈x::(b++a)↔z∈t::s':=fun z=>by rw[e1];simp;grind
  have hlen:(x::(b++a)).length=((fP (ay A x k s0) h x G).R h).length:=by rw[Gd,e1];simp;omega
  refine⟨⟨hF _ (f1.dA _),hRR _ ⟨fun g _=>?_,fun g y _=>?_,fun g t' s'' _ hR' y hy=>?_⟩⟩,fun g hg=>by rw[eR' g hg,f4 g hg],by rw[eR,hlen];exact f6,by rw[eR,hlen];exact f7,f8⟩
  ·by_cases eg:g=h
   ·subst eg;rw[eR];rw[e1]at q1;exact Ring.Xi (a:=a) (b:=x::b) q1
   ·rw[eR' g eg];exact(f2.all g).1
  ·by_cases eg:g=h
   ·subst eg;rw[eR,hmm,←Gd];exact q2 y
   ·rw[eR' g eg];exact(f2.all g).2.1 y
  ·by_cases eg:g=h
   ·subst eg;rw[eR]at hR';have e3:x=t':=by injection hR'
    have e4:b++a=s'':=by injection hR'
    subst e3 e4;have hy2:=(hmm y).1 (by simp only[ρ];exact Or.inr hy);have hyx:y≠x:=fun e=>by subst e;simp at hy;rcases hy with h|h;exact xb h;exact xa h
    rcases ρ.1 hy2 with rfl|hy2
    ·exact hlt
    ·exact bV hlt (q3 t s' Gd y hy2 hyx)
   ·rw[eR' g eg]at hR';have hyx:y≠x:=fun e=>xg g eg (by rw[hR',←e];simp[hy]);exact(f2.all g).2.2 t' s'' hR' y hy hyx
 ·have e:lI (ay A x k s0) h x G=fP (ay A x k s0) h x G:=by unfold lI;rw[if_neg hc]
  rw[e];refine⟨⟨hF _ f1,hRR _ (f2.imp (fun g t' s'' hR' y hy hl2=>?_))⟩,f4,f6,f7,f8⟩
  by_cases eyx:y=x
  ·by_cases eg:g=h
   ·subst eg;rw[Gd]at hR' hc;have e3:t=t':=by injection hR'
    have e4:s'=s'':=by injection hR'
    subst e3 e4 eyx;have hty:t≠y:=fun e=>hnd.1 (e▸hy);have:¬bZ (ay A y k s0) y t:=fun hlt=>hc ⟨fun e=>hty (by have:(t:Int)=(y:Int):=e;omega),by unfold pG mG;simpa using hlt⟩;exact(je hty).resolve_right this
   ·subst eyx;exact absurd (by rw[hR'];simp[hy]) (xg g eg)
  ·exact hl2 eyx
end
theorem AA.done{n:Nat}{bN:Nat->Int}{L:Nat->Nat->Prop}{h:Nat}{G:FG}(H:AA n bN L h [] G)(h1:1<=h):FR n G bN L none:=by
 refine⟨fun g _=>?_,fun g y _=>?_,fun g t s _ hR=>?_⟩
 all_goals by_cases e:g=h
 ·subst e;exact H.ring
 ·exact H.fr.ring g (by simp;exact e)
 ·subst e;constructor
  ·intro hm;exact⟨h1,H.mem y hm⟩
  ·rintro⟨_,a⟩;rcases H.all y a with b|b
   ·exact b
   ·cases b
 ·exact H.fr.mem g y (by simp;exact e)
 ·subst e;exact H.top t s hR
 ·exact H.fr.top g t s (by simp;exact e) hR
section
variable {A:NS}{G:FG}
theorem YX(n:Nat):zt (NS.new n) FG.none:=by
 have hl:(NS.new n).cs.length=n:=by simp[NS.new]
 have hz:∀y,((NS.new n).c y).i=0:=fun y=>by rw[NS.yM];rfl
 refine⟨⟨⟨fun x hx=>hx,fun x hx=>hx,fun _ _=>rfl,fun _ _=>rfl⟩,fun x y _ hy=>(by cases hy),fun y _=>Or.inl rfl,fun x _=>Ring.nil _,fun y p _ hu=>?_,fun y p _ hu=>?_,fun y _ _=>⟨rfl,rfl,rfl⟩,fun y _ _=>rfl,fun x d _=>Nat.zero_le _⟩,⟨fun h _=>Ring.nil _,fun h y _=>?_,fun h t s _ e=>(by cases e)⟩⟩
 ·have:(-1:Int)=p:=hu;omega
 ·have:(-1:Int)=p:=hu;omega
 ·constructor
  ·intro hm;cases hm
  ·rintro⟨h1,_,_,h2⟩;simp only[hz]at h2;omega
theorem Vw(I:zt A G):zt (aR A) G:=by
 have e1:(aR A).cs=A.cs:=by unfold aR;split<;>rfl
 have e2:∀y,(aR A).c y=A.c y:=fun y=>by unfold NS.c;rw[e1]
 have e3:(fun y=>((aR A).c y).i)=(fun y=>(A.c y).i):=funext (fun y=>by rw[e2]);refine⟨?_,?_⟩
 ·rw[e1,e3];exact I.ff.mono (fun y p hy hu ho=>⟨(I.ff.home y p hy hu).1,(I.ff.home y p hy hu).2,(fJ (e2 p) (e2 y)).2 ho⟩) I.ff.alone
 ·rw[e1,e3];exact I.fr.imp (fun g t s _ y _ hl=>(fJ (e2 t) (e2 y)).2 hl)
theorem Yv(I:zt A G)(ok:A.Ok){h x:Nat}(k s:Int)(hB:oG A h x=true) :
  zt (aK A h x k s) (Qu (aK A h x k s) h x G)/\((Qu (aK A h x k s) h x G).R h).length=(G.R h).length+1/\(∀g,g≠h->(Qu (aK A h x k s) h x G).R g=G.R g)/\(Qu (aK A h x k s) h x G).mr=G.mr/\1<=h/\x<A.cs.length/\
   bS (aK A h x k s) (x:Int)=true/\(∀t s',G.R h=t::s'->bS (aK A h x k s) (t:Int)=true)/\(aK A h x k s).cs.length=A.cs.length:=by
 obtain⟨b1,b2,b3⟩:=(fB _ _ _).1 hB;have b4:=(aV _ _).1 b1;have b5:=(gU _ _).1 b2;have hx:x<A.cs.length:=ω;have h1:1<=h:=ω;have eP:aK A h x k s=jc A x ⟨h,k,s⟩:=by unfold aK;rw[hB];rfl
 have hc:∀y,(aK A h x k s).c y=if y=x then ⟨h,k,s⟩else A.c y:=fun y=>by rw[eP,kH];simp[hx]
 have hl:(aK A h x k s).cs.length=A.cs.length:=by rw[eP,fI]
 have x0:¬0<(A.c x).i:=fun h'=>by
  have:bS A (x:Int)=true:=(ah _ _).2 ⟨hx,h'⟩;rw[this]at b3;cases b3
 obtain⟨ax,kx,nx⟩:=I.ff.alone x hx x0;have bN:∀y,y≠x->((aK A h x k s).c y).i=(A.c y).i:=fun y hy=>by rw[hc,if_neg hy]
 have BH:((aK A h x k s).c x).i=h:=by rw[hc,if_pos rfl]
 have inx:∀y,0<(A.c y).i->y≠x:=fun y hy e=>x0 (e▸hy);have lts:∀a y,a≠x->y≠x->(bZ (aK A h x k s) a y↔bZ A a y):=fun a y ha hy=>fJ (by rw[hc,if_neg ha]) (by rw[hc,if_neg hy])
 have F':FF A.cs.length G (fun y=>((aK A h x k s).c y).i) (bZ (aK A h x k s)) (fun _=>0):=I.ff.mono (fun y p hy hu ho=>by
  have hh:=I.ff.home y p hy hu;have hy1:0<(A.c y).i:=hh.2;have hp1:0<(A.c p).i:=by have:(A.c y).i=(A.c p).i:=hh.1;omega
  have e1:=inx y hy1;have e2:=inx p hp1;exact⟨by simp only[bN y e1,bN p e2];exact hh.1,by simp only[bN y e1];exact hy1,(lts p y e2 e1).2 ho⟩) (fun y hy h0=>by
  by_cases e:y=x
  ·subst e;exact⟨ax,kx,nx⟩
  ·simp only[bN y e]at h0;exact I.ff.alone y hy h0)
 have mR:∀g z,z∈G.R g->z≠x/\(A.c z).i=g/\1<=g:=fun g z hz=>by
  have:=I.out hz;exact⟨inx z (by have:=this.2.2.2.1;omega),this.2.2.2.1,this.1⟩
 have mm:∀g z,z≠x->(z∈G.R g↔1<=g/\z<A.cs.length/\G.up z=-1/\((aK A h x k s).c z).i=g):=fun g z hz=>by rw[bN z hz];exact(I.fr.all g).2.1 z
 have H:AA A.cs.length (fun y=>((aK A h x k s).c y).i) (bZ (aK A h x k s)) h [x] G:=by
  refine⟨F',⟨fun g _=>(I.fr.all g).1,fun g z hg=>?_,fun g t s' _ hR y hy=>?_⟩,(I.fr.all h).1,fun t s' hR y hy=>?_,fun z hz=>?_,σ,fun z hz=>?_,fun z hz=>?_⟩
  ·by_cases e:z=x
   ·subst e;constructor
    ·intro hm;exact absurd rfl (mR g z hm).1
    ·rintro⟨_,_,_,h2⟩;simp only[BH]at h2;exact absurd (by congr 1;omega:some g=some h) hg
   ·exact mm g z e
  ·have e1:=(mR g t (by rw[hR];simp)).1;have e2:=(mR g y (by rw[hR];simp[hy])).1;exact(lts t y e1 e2).2 ((I.fr.all g).2.2 t s' hR y hy)
  ·have e1:=(mR h t (by rw[hR];simp)).1;have e2:=(mR h y (by rw[hR];simp[hy])).1;exact(lts t y e1 e2).2 ((I.fr.all h).2.2 t s' hR y hy)
  ·exact((mm h z (mR h z hz).1).1 hz).2
  ·simp at hz;subst hz;exact⟨⟨hx,ax,BH⟩,nx,fun hm=>(mR h z hm).1 rfl⟩
  ·by_cases e:z=x
   ·exact Or.inr (by simp[e])
   ·exact Or.inl ((mm h z e).2 ⟨h1,hz⟩)
 obtain⟨r1,r2⟩:=H.step h1 (fun G=>zI _ _ _ _ _) (fun a b c=>bV);obtain⟨s1,s2,s3,s4⟩:=vI (pG (aK A h x k s)) h [x] G;refine⟨⟨by rw[hl];exact r1.ff,by rw[hl];exact r1.done h1⟩,r2,s4,s2,h1,hx,(ah _ _).2 ⟨by rw[hl];exact hx,by rw[BH];omega⟩,fun t s' hR=>?_,hl⟩;have:=I.out (h:=h) (z:=t) (by rw[hR];simp);exact(ah _ _).2 ⟨by rw[hl];exact this.2.1,by rw[bN t (mR h t (by rw[hR];simp)).1];omega⟩
end
end Go.Proofs.YtklibcncmbofpaaGreat
namespace Go.Proofs.YtklibcncmbofpaaGreat
open Go Go.RowKit
section
variable {w:World}{B:FB}{F:List Nat}{gt ct:Nat}{A:NS}{st:Nat}{G:FG}
theorem JG{α:Type}(f:Nat->α)(x:Nat)(u v:α):ak (ak f x u) x v=ak f x v:=by
 funext z;unfold ak;split<;>rfl
theorem fD.kids(M:fD w B F gt ct A st G)(p:Nat)(l:List Nat)(d v:Int)(hd:d=(l.length:Int))(hv:v=mG l) :
  fD ((w.setCell ⟨B.bl,p*4+2,none⟩ (.int .i64 d)).setCell ⟨B.bl,p*4+1,none⟩ (.int .i64 v)) B F gt ct A st { G with K:=ak G.K p l }:=by
 refine M.KX (up:=G.up) (mr:=G.mr) ν ?_;unfold oh;simp only[EG,jZ,←hv,←hd];exact qp (sQ M.pl p d) p v
theorem fD.ack(M:fD w B F gt ct A st G)(p:Nat)(l:List Nat)(d v u:Int)(hd:d=(l.length:Int))(hv:v=mG l) :
  fD (((w.setCell ⟨B.bl,p*4+2,none⟩ (.int .i64 d)).setCell ⟨B.bl,p*4+1,none⟩ (.int .i64 u)).setCell ⟨B.bl,p*4+1,none⟩ (.int .i64 v)) B F gt ct A st { G with K:=ak G.K p l }:=by
 refine M.KX (up:=G.up) (mr:=G.mr) ν ?_;unfold oh;simp only[EG,jZ,←hv,←hd];have:=qp (qp (sQ M.pl p d) p u) p v;rw[JG]at this;exact this
theorem fD.lone(M:fD w B F gt ct A st G)(x:Nat):fD ((w.setCell ⟨B.bl,x*4,none⟩ (.int .i64 (-1))).setCell ⟨B.bl,x*4+3,none⟩ (.bool false)) B F gt ct A st { G with up:=ak G.up x (-1),mr:=ak G.mr x false }:=by
 refine M.KX (K:=G.K) ν ?_;exact qj (tu M.pl x (-1)) x false
theorem rY{c:Code}{K:Exit->Act->World->Prop}{a:Act}{W:World}(R:World->Prop)(h:R W)(k:∀W',R W'->Code.wp Tryz.prog c K a W'):Code.wp Tryz.prog c K a W:=k W h
theorem F4(M:fD w B F gt ct A st G){q x p t:Nat}{s:List Nat}(hq:q<A.hs.length)(hx:x<A.cs.length)(hp:p<A.cs.length)(ux:G.up x=p)(hR:G.R q=t::s)(ht:t<A.cs.length)
  (hl:(G.K p).length=(zO (G.K p) x).length+1) (hl2:(G.K p).length<=65536) (hn:G.nx x=(zO (G.K p) x).headD x) (hxa:x∉zO (G.K p) x) :
  Calls Tryz.prog 231 #[.pointer (some ⟨B.n0,0,none⟩),.int .i64 (q:Int),.int .i64 (x:Int)] w fun e w'=>e=.returned (.tuple #[])/\fD w' B F gt ct A st (fw q x G)/\aa [B.bn,B.bp,B.bl] w w':=by
 have hc1:=M.cells.ok.c1;have h2:=M.h2;have h1:=M.h1;have BN:(x:Int)<(A.cs.length:Int):=ω;have ZF:(p:Int)<(A.cs.length:Int):=ω;have px0:=M.p0 hx;rw[ux]at px0;have pp1:=M.p1 hp;have pp2:=M.p2 hp;have fp1:=M.pl.free (p*4+1);have fp2:=M.pl.free (p*4+2);have eg:fw q x G={ nx:=dF (dF G.nx x (G.pv x)) t x,pv:=jF (dF G.nx x (G.pv x)) (jF G.nx G.pv x (G.pv x)) t x,up:=ak G.up x (-1),mr:=ak G.mr x false,K:=ak G.K p (zO (G.K p) x),R:=ak G.R q (t::x::s) }:=by
  unfold fw;rw[hR,ux];rfl
 rw[eg];have hw1:IntKind.i64.wrap (((G.K p).length:Int)-1)=((zO (G.K p) x).length:Int):=by rw[IntWalk.i64_in _ ω];omega
 obtain⟨g1,g2,g3,g4,g5,g6,g7⟩:=M.d3;obtain⟨e1,e2,e3,e4,e5⟩:=M.d2;have hlt:=M.lt;have lbl:=hlt B.bl (by simp[FB.blk]);have hkn:∀W,fD W B F gt ct A st { G with K:=ak G.K p (zO (G.K p) x) }->Calls Tryz.prog 236 #[.pointer (some ⟨B.br,0,none⟩),.int .i64 (x:Int)] W fun e w'=>e=.returned (.tuple #[.int .i64 (G.nx x:Int),.bool true])/\w'=W:=fun W hW=>CL hW.rings hx
 have Dp:∀W,fD W B F gt ct A st { G with K:=ak G.K p (zO (G.K p) x) }->Calls Tryz.prog 228 #[.pointer (some ⟨B.br,0,none⟩),.int .i64 (x:Int)] W fun e w'=>e=.returned (.bool true)/\yH w' B.br B.bn B.bp A.cs.length (dF G.nx x (G.pv x)) (jF G.nx G.pv x (G.pv x))/\aa [B.bn,B.bp] W w':=fun W hW=>Ck hW.rings hx;cases hA:zO (G.K p) x with
 | nil=>
  rw[hA]at hn hw1 hl Dp hkn;have hn':G.nx x=x:=hn;rw[hn']at hkn;obtain⟨W5,Uz⟩:∃W5,W5=(w.setCell ⟨B.bl,p*4+2,none⟩ (.int .i64 0)).setCell ⟨B.bl,p*4+1,none⟩ (.int .i64 (-1)):=⟨_,rfl⟩;have M5:fD W5 B F gt ct A st { G with K:=ak G.K p [] }:=by rw[Uz];exact M.kids p [] 0 (-1) rfl rfl
  have bW:aa [B.bl] w W5:=by rw[Uz];exact ν
  go_enter Tryz.func231,Tryz.ntmps231
  go_wp2
  go_region
  have KP:=χ Dp;have KN:=χ hkn;have H5:=χ (ψ M5 (ψ bW Uz));have HM:=χ (ψ M (ψ hlt hR));clear Dp hkn M5 bW Uz M hlt hR eg hA hn hn' hl ux hxa;have kn5:=fun W (hW:aa [] W5 W)=>KN.out W (H5.out.1.au hW);have Zd:=fun W (hW:aa [] W5 W)=>KP.out W (H5.out.1.au hW);rw[H5.out.2.2]at kn5 Zd
  go_wp2_with (first
   | ((go_at_call 236;(with_reducible refine(kn5 _ β).mono ?_));rintro e w9 ⟨rfl,aJ⟩;rw[aJ];clear aJ w9)
   | ((go_at_call 228;(with_reducible refine(Zd _ β).mono ?_));rintro e w6 ⟨rfl,YL,ik⟩)
   | fail)
  have U6:aa [B.bn,B.bp] W5 w6:=by rw[H5.out.2.2];exact aa.trans β ik
  have M6:=((H5.out.1)).dA U6 YL;have kE:aa [B.bn,B.bp,B.bl] w w6:=(H5.out.2.1.mono σ).trans ((U6).mono (fun z hz=>by simp at hz;rcases hz with e|e<;>simp[e]));have q2:=M6.h2;have q0:=M6.p0 hx;have q3:=M6.p3 hx;have f0:=M6.pl.free (x*4);have f3:=M6.pl.free (x*4+3);have H6:=χ (ψ M6 kE);clear M6 kE YL ik kn5 Zd
  go_region
  go_wp2;refine rY (fun W=>fD W B F gt ct A st { nx:=dF G.nx x (G.pv x),pv:=jF G.nx G.pv x (G.pv x),up:=ak G.up x (-1),mr:=ak G.mr x false,K:=ak G.K p [],R:=G.R }/\aa [B.bn,B.bp,B.bl] w W) ?_ ?_
  ·have kE:=H6.out.2;exact⟨(H6.out.1.lone x).drewN 1,ν⟩
  rintro w7 ⟨M7,kE⟩;have ks:=fun W (hW:aa [] w7 W)=>kX (M7.rings.au hW) ht hx;have m:∀x,x≠B.bn->x≠B.bp->x∉[B.bn,B.bp]:=fun x h1 h2=>by simp[h1,h2]
  have r1:∀W,aa [B.bn,B.bp] w7 W->W.cell? ⟨B.n0,1,none⟩=some (.pointer (some ⟨B.br,0,none⟩)):=fun W hW=>hW.kept M7.h1 (m _ e2 e3);have r3:∀W,aa [B.bn,B.bp] w7 W->W.cell? ⟨B.n0,3,none⟩=some (.slice (some ⟨gt,0,none⟩) A.hs.length ct):=fun W hW=>hW.kept M7.h3 (m _ e2 e3);have rt:∀W,aa [B.bn,B.bp] w7 W->W.cell? ⟨gt,q,none⟩=some (.int .i64 (t:Int)):=fun W hW=>by
   have:=hW.kept (M7.top hq) (m _ g6 g7);rw[show mG ((({ nx:=dF G.nx x (G.pv x),pv:=jF G.nx G.pv x (G.pv x),up:=ak G.up x (-1),mr:=ak G.mr x false,K:=ak G.K p [],R:=G.R }:FG)).R q)=t from by show mG (G.R q)=t;rw[HM.out.2.2];rfl]at this;exact this
  have hqI:(q:Int)<(A.hs.length:Int):=ω;have hcap:=M7.cap;have H7:=χ (ψ M7 kE);clear M7 kE q2 q0 q3 f0 f3
  go_region_held3 (aa [B.bn,B.bp] w7) (exact ν)
   (first
    | ((go_at_call 233;(with_reducible refine(ks _ β).mono ?_));rintro e w8 ⟨rfl,hR8,Jv⟩;(have wU:aa [B.bn,B.bp] w7 w8:=aa.trans ν Jv)))
  go_wp2;go_end0;refine⟨rfl,((H7.out.1.dA wU hR8).TV q (t::x::s) (by show _=mG (G.R q);rw[HM.out.2.2];rfl)).drewN 0,H7.out.2.trans (wU.mono (fun z hz=>by simp at hz;rcases hz with e|e<;>simp[e]))⟩
 | cons y r=>
  rw[hA]at hn hw1 hl Dp hkn;have hn':G.nx x=y:=hn;rw[hA]at hxa;have hyx:y≠x:=fun e=>hxa (by simp[e]);have hyxI:((y:Int) == (x:Int))=false:=ζ;rw[hn']at hkn;have hrl:((r.length:Nat):Int)+1=(((y::r).length:Nat):Int):=σ;obtain⟨W4,Vr⟩:∃W4,W4=(w.setCell ⟨B.bl,p*4+2,none⟩ (.int .i64 (((y::r).length:Nat):Int))).setCell ⟨B.bl,p*4+1,none⟩ (.int .i64 (-1)):=⟨_,rfl⟩;obtain⟨W5,Uz⟩:∃W5,W5=((w.setCell ⟨B.bl,p*4+2,none⟩ (.int .i64 (((y::r).length:Nat):Int))).setCell ⟨B.bl,p*4+1,none⟩ (.int .i64 (-1))).setCell ⟨B.bl,p*4+1,none⟩ (.int .i64 (y:Int)):=⟨_,rfl⟩
  have M5:fD W5 B F gt ct A st { G with K:=ak G.K p (y::r) }:=by rw[Uz];exact M.ack p (y::r) _ (y:Int) (-1) rfl rfl
  have bW:aa [B.bl] w W5:=by rw[Uz];exact ν
  have gX:aa [B.bl] w W4:=by rw[Vr];exact ν
  have kn4:∀W,aa [] W4 W->Calls Tryz.prog 236 #[.pointer (some ⟨B.br,0,none⟩),.int .i64 (x:Int)] W fun e w'=>e=.returned (.tuple #[.int .i64 (y:Int),.bool true])/\w'=W:=fun W hW=>by
   have:=CL (M.rings.upd (gX.then hW) (by simp;exact Ne.symm g1) (by simp;exact Ne.symm g2) (by simp;exact Ne.symm g3)) hx;rw[hn']at this;exact this
  have Zd:∀W,aa [] W5 W->Calls Tryz.prog 228 #[.pointer (some ⟨B.br,0,none⟩),.int .i64 (x:Int)] W fun e w'=>e=.returned (.bool true)/\yH w' B.br B.bn B.bp A.cs.length (dF G.nx x (G.pv x)) (jF G.nx G.pv x (G.pv x))/\aa [B.bn,B.bp] W w':=fun W hW=>Dp W (M5.au hW);rw[Vr]at kn4;rw[Uz]at Zd;have kn5:=kn4;have H5:=χ (ψ M5 (ψ bW Uz));have HM:=χ (ψ M (ψ hlt hR));clear Dp hkn M5 bW Uz M hlt hR eg hA hn hn' hl ux hxa Vr gX kn4 hrl;generalize (((y::r).length:Nat):Int)=dl at *
  go_enter Tryz.func231,Tryz.ntmps231
  go_wp2
  go_region
  go_wp2_with (first
   | ((go_at_call 236;(with_reducible refine(kn5 _ β).mono ?_));rintro e w9 ⟨rfl,aJ⟩;rw[aJ];clear aJ w9)
   | ((go_at_call 228;(with_reducible refine(Zd _ β).mono ?_));rintro e w6 ⟨rfl,YL,ik⟩)
   | fail)
  have U6:aa [B.bn,B.bp] W5 w6:=by rw[H5.out.2.2];exact aa.trans β ik
  have M6:=((H5.out.1)).dA U6 YL;have kE:aa [B.bn,B.bp,B.bl] w w6:=(H5.out.2.1.mono σ).trans ((U6).mono (fun z hz=>by simp at hz;rcases hz with e|e<;>simp[e]));have q2:=M6.h2;have q0:=M6.p0 hx;have q3:=M6.p3 hx;have f0:=M6.pl.free (x*4);have f3:=M6.pl.free (x*4+3);have H6:=χ (ψ M6 kE);clear M6 kE YL ik kn5 Zd
  go_region
  go_wp2;refine rY (fun W=>fD W B F gt ct A st { nx:=dF G.nx x (G.pv x),pv:=jF G.nx G.pv x (G.pv x),up:=ak G.up x (-1),mr:=ak G.mr x false,K:=ak G.K p (y::r),R:=G.R }/\aa [B.bn,B.bp,B.bl] w W) ?_ ?_
  ·have kE:=H6.out.2;exact⟨(H6.out.1.lone x).drewN 1,ν⟩
  rintro w7 ⟨M7,kE⟩;have ks:=fun W (hW:aa [] w7 W)=>kX (M7.rings.au hW) ht hx;have m:∀x,x≠B.bn->x≠B.bp->x∉[B.bn,B.bp]:=fun x h1 h2=>by simp[h1,h2]
  have r1:∀W,aa [B.bn,B.bp] w7 W->W.cell? ⟨B.n0,1,none⟩=some (.pointer (some ⟨B.br,0,none⟩)):=fun W hW=>hW.kept M7.h1 (m _ e2 e3);have r3:∀W,aa [B.bn,B.bp] w7 W->W.cell? ⟨B.n0,3,none⟩=some (.slice (some ⟨gt,0,none⟩) A.hs.length ct):=fun W hW=>hW.kept M7.h3 (m _ e2 e3);have rt:∀W,aa [B.bn,B.bp] w7 W->W.cell? ⟨gt,q,none⟩=some (.int .i64 (t:Int)):=fun W hW=>by
   have:=hW.kept (M7.top hq) (m _ g6 g7);rw[show mG ((({ nx:=dF G.nx x (G.pv x),pv:=jF G.nx G.pv x (G.pv x),up:=ak G.up x (-1),mr:=ak G.mr x false,K:=ak G.K p (y::r),R:=G.R }:FG)).R q)=t from by show mG (G.R q)=t;rw[HM.out.2.2];rfl]at this;exact this
  have hqI:(q:Int)<(A.hs.length:Int):=ω;have hcap:=M7.cap;have H7:=χ (ψ M7 kE);clear M7 kE q2 q0 q3 f0 f3
  go_region_held3 (aa [B.bn,B.bp] w7) (exact ν)
   (first
    | ((go_at_call 233;(with_reducible refine(ks _ β).mono ?_));rintro e w8 ⟨rfl,hR8,Jv⟩;(have wU:aa [B.bn,B.bp] w7 w8:=aa.trans ν Jv)))
  go_wp2;go_end0;refine⟨rfl,((H7.out.1.dA wU hR8).TV q (t::x::s) (by show _=mG (G.R q);rw[HM.out.2.2];rfl)).drewN 0,H7.out.2.trans (wU.mono (fun z hz=>by simp at hz;rcases hz with e|e<;>simp[e]))⟩
theorem fD.marked(M:fD w B F gt ct A st G)(x:Nat):fD (w.setCell ⟨B.bl,x*4+3,none⟩ (.bool true)) B F gt ct A st { G with mr:=ak G.mr x true }:=by
 refine M.KX (up:=G.up) (K:=G.K) ν ?_;exact qj M.pl x true
theorem Eo{bN:Nat->Int}{L Mx:Nat->Nat->Prop}(irr:∀a,¬L a a)(M:fD w B F gt ct A st G){q p t:Nat}{s:List Nat}(hq:q<A.hs.length)(H:FF A.cs.length G bN L (fun c=>if c=p then 1 else 0))(R:FR A.cs.length G bN Mx none)(hR:G.R q=t::s)(hp:p<A.cs.length)(hh:bN p=q)(h1:1<=q)
  (hf:∀y,y<A.cs.length->bN y=q->y≠t->Mx t y) :
  Calls Tryz.prog 232 #[.pointer (some ⟨B.n0,0,none⟩),.int .i64 (q:Int),.int .i64 (p:Int)] w fun e w'=>e=.returned (.tuple #[])/\fD w' B F gt ct A st (rO (marks A.cs.length G+1) q p G)/\aa [B.bn,B.bp,B.bl] w w':=by
 have hc1:=M.cells.ok.c1;obtain⟨D,hD⟩:∃D,rO (marks A.cs.length G+1) q p G=D:=⟨_,rfl⟩;rw[hD];have H0:=χ (ψ M (ψ H (ψ R (ψ hR (ψ hD hf)))));clear M H R hR hD hf
 go_enter Tryz.func232,Tryz.ntmps232
 go_wp2
 go_loopg [2] (marks A.cs.length G+1) (fun fu s2 wr=>∃ (p':Nat) (s':List Nat) (G':FG),s2=.int .i64 (p':Int)/\FF A.cs.length G' bN L (fun c=>if c=p' then 1 else 0)/\FR A.cs.length G' bN Mx none/\G'.R q=t::s'/\p'<A.cs.length/\bN p'=q/\marks A.cs.length G'<fu/\rO fu q p' G'=D/\fD wr B F gt ct A st G'/\aa [B.bn,B.bp,B.bl] w wr)
 case atStart=>exact⟨p,s,G,rfl,H0.out.2.1,H0.out.2.2.1,H0.out.2.2.2.1,hp,hh,ω,H0.out.2.2.2.2.1,H0.out.1,aa.refl _ _⟩
 case round=>
  rename Nat=>fu;obtain⟨p',s',G',rfl,H,R,hR,hp',hh',hm,hcas,hM,hu⟩:=hrel;rename World=>wr;obtain⟨fv,rfl⟩:∃fv,fu=fv+1:=⟨fu-1,ω⟩;have ZF:(p':Int)<(A.cs.length:Int):=ω;have q2:=hM.h2;have p0:=hM.p0 hp';have p3:=hM.p3 hp';have f3:=hM.pl.free (p' * 4+3);unfold rO at hcas;have HR:=χ (ψ H (ψ R (ψ hR (ψ hM hu))))
  by_cases e:G'.up p'=-1
  ·rw[if_pos e]at hcas;rw[e]at p0;subst hcas;clear H R hR hM hu e H0;go_wp2;go_end0;exact⟨rfl,HR.out.2.2.2.1,HR.out.2.2.2.2⟩
  ·rw[if_neg e]at hcas;obtain⟨pp,Qc,Yx,_⟩:=(H.Gu p' hp').resolve_left e;have hne:((pp:Int) == -1)=false:=σ;rw[Yx]at p0 hcas;rw[π]at hcas;cases hb:G'.mr p' with
   | false=>
    rw[hb]at p3 hcas;rw[if_pos rfl]at hcas;have HC:=χ hcas;clear H R hR hM hu e hcas hb Yx H0;go_wp2;refine bodyPost_ret (v:=.tuple #[]) (by simp[results,Tryz.results232,go_sem]) rfl ?_;exact⟨rfl,by rw[←HC.out];exact HR.out.2.2.2.1.marked p',HR.out.2.2.2.2.setCell (Or.inl σ) _⟩
   | true=>
    rw[hb]at p3 hcas;rw[if_neg σ]at hcas;have hqp:pp≠p':=fun e3=>by subst e3;exact irr _ (H.ord pp pp hp' Yx)
    have htp:p'≠t:=fun e3=>by
     subst e3;have:=((R.all q).2.1 p').1 (by rw[hR];simp);exact e this.2.2.1
    obtain⟨o1,o2,o3,o4,o5,o6,⟨a,b,eK,eA⟩,o8⟩:=Am H R hR hp' Yx hqp hh' (H0.out.2.2.2.2.2 p' hp' hh' htp);have ht:=(((R.all q).2.1 t).1 (by rw[hR];simp)).2.1;have hnd:=(H.ring pp Qc).nd;have hka:(G'.K pp).length=(zO (G'.K pp) p').length+1:=by rw[eA,eK];simp;omega
    have hkb:(G'.K pp).length<=65536:=Nat.le_trans (H.OD Qc) hc1;have hxa:p'∉zO (G'.K pp) p':=by
     rw[eA];rw[eK,θ,List.nodup_cons]at hnd;intro hm2;rcases τ.1 hm2 with h'|h'
     ·exact hnd.2.1.1 h'
     ·exact hnd.2.2 p' h' p' σ rfl
    have ko:=fun W (hW:aa [] wr W)=>F4 (hM.au hW) hq hp' Qc Yx hR ht hka hkb o8 hxa;have hmk:=tQ (G:=G') (b:=false) hp' rfl (fw q p' G') o4;rw[hb]at hmk;simp only[Bool.false_eq_true,if_false,if_true]at hmk;have ZA:FF A.cs.length (fw q p' G') bN L (fun c=>if c=pp then 1 else 0):=by
     refine⟨o1.rg,o1.kid,o1.Gu,o1.ring,o1.home,o1.ord,o1.alone,o1.free,fun x d hx=>?_⟩;have ZX:(fw q p' G').up p'=-1:=by rw[o3,bQ]
     rw[uI (G:=fw q p' G') (ex:=fun c=>if c=pp then (if c=p' then 1 else 0)+1 else if c=p' then 1 else 0) d (fun c hc=>by
      have hcp:c≠p':=fun e3=>o1.sW hx ZX (e3▸hc)
      rw[if_neg hcp])]
     exact o1.cnt x d hx
    have hph:bN pp=q:=by have:=(H.home p' pp hp' Yx).1;omega
    have HS:=χ (ψ ZA (ψ o2 (ψ o6 (ψ hcas hmk))));clear H R hR hM hu e hcas hb Yx o1 ZA o2 o3 o4 o5 o6 o8 eK eA hnd hka hkb hxa hmk
    go_wp2_with (first
     | ((go_at_call 231;(with_reducible refine(ko _ β).mono ?_));rintro e w2 ⟨rfl,hM2,hu2⟩)
     | fail)
    go_roundg fv
    case measure=>omega
    case rel=>
     obtain⟨o1,o2,o6,hcas,hmk⟩:=HS.out;exact⟨pp,p'::s',fw q p' G',rfl,o1,o2,by rw[o6,bQ],Qc,hph,ω,hcas,hM2,HR.out.2.2.2.2.trans hu2⟩
theorem IQ{bN:Nat->Int}{L Mx:Nat->Nat->Prop}(irr:∀a,¬L a a)(M:fD w B F gt ct A st G){q x t:Nat}{s:List Nat}(hq:q<A.hs.length)(hx:x<A.cs.length)(H0:FF A.cs.length G bN (fun a y=>y≠x->L a y) (fun _=>0))(hR:G.R q=t::s)(ht:t<A.cs.length)(h1:1<=q)
  (hp:∀p:Nat,G.up x=p->p≠x/\bN p=q/\FF A.cs.length (fw q x G) bN L (fun c=>if c=p then 0+1 else 0)/\FR A.cs.length (fw q x G) bN Mx none/\(fw q x G).R q=t::x::s)
  (hf:∀y,y<A.cs.length->bN y=q->y≠t->Mx t y) :
  Calls Tryz.prog 225 #[.pointer (some ⟨B.n0,0,none⟩),.int .i64 (q:Int),.int .i64 (x:Int)] w fun e w'=>e=.returned (.tuple #[])/\fD w' B F gt ct A st (kg A.cs.length q x G)/\aa [B.bn,B.bp,B.bl] w w':=by
 have hc1:=M.cells.ok.c1;have q2:=M.h2;have p0:=M.p0 hx;have BN:(x:Int)<(A.cs.length:Int):=ω
 by_cases e:G.up x=-1
 ·have eg:kg A.cs.length q x G=G:=by unfold kg;rw[if_pos e]
  rw[eg];rw[e]at p0;have HM:=χ M;clear M H0 hR hp hf e eg
  go_enter Tryz.func225,Tryz.ntmps225
  go_wp2;go_end0;exact⟨rfl,HM.out,aa.refl _ _⟩
 ·obtain⟨p,hpn,ux,hxk⟩:=(H0.Gu x hx).resolve_left e;obtain⟨hpx,hph,o1,o2,o3⟩:=hp p ux;have eg:kg A.cs.length q x G=rO (marks A.cs.length (fw q x G)+1) q p (fw q x G):=by unfold kg;rw[ux,if_neg ω,π]
  rw[eg];rw[ux]at p0;have hne:((p:Int) == -1)=false:=σ;have Mo:=H0.ring p hpn;obtain⟨a,b,eK,eA,xa,xb⟩:=J9 hxk Mo.nd;have hka:(G.K p).length=(zO (G.K p) x).length+1:=by rw[eA,eK];simp;omega
  have hkb:(G.K p).length<=65536:=Nat.le_trans (H0.OD hpn) hc1;have hxa:x∉zO (G.K p) x:=by rw[eA];simp;exact⟨xb,xa⟩
  have hnx:G.nx x=(zO (G.K p) x).headD x:=by
   rw[eK]at Mo;have:=Ring.Xi (a:=a) (b:=x::b) Mo;rw[eA];exact(jd.1 this).2.1
  have ko:=fun W (hW:aa [] w W)=>F4 (M.au hW) hq hx hpn ux hR ht hka hkb hnx hxa;have ZA:FF A.cs.length (fw q x G) bN L (fun c=>if c=p then 1 else 0):=by simpa using o1
  have kc:=fun W (hM:fD W B F gt ct A st (fw q x G))=>Eo irr hM hq ZA o2 o3 hpn hph h1 hf;have HM:=χ (ψ M kc);clear M H0 hR hp hf e eg kc o1 ZA o2 o3 eK eA hka hkb hxa hnx ux Mo
  go_enter Tryz.func225,Tryz.ntmps225
  go_wp2_with (first
   | ((go_at_call 231;(with_reducible refine(ko _ β).mono ?_));rintro e w2 ⟨rfl,hM2,hu2⟩;(have ZP:=HM.out.2 _ hM2);(have HU:=χ hu2);clear hM2 hu2 ko)
   | ((go_at_call 232;(with_reducible refine(ZP).mono ?_));rintro e w3 ⟨rfl,jR,hu3⟩)
   | fail)
  go_end0;exact⟨rfl,jR,HU.out.trans hu3⟩
end
def xE(w:World)(p:Nat)(FF:List Nat)(A:NS)(st:Nat)(G:FG):Prop:=(∃B F gt ct,p=B.n0/\FF=B.blk F gt/\fD w B F gt ct A st G)/\zt A G
theorem jI{B:FB}{F:List Nat}{gt:Nat}:∀x,x∈F->x∈B.blk F gt:=fun x hx=>by simp[FB.blk,hx]
theorem Xd{w:World}{B:FB}{F F':List Nat}{gt:Nat}(hF:∀x,x∈F'->x∈F\/w.heap.size<=x):∀x,x∈B.blk F' gt->x∈B.blk F gt\/w.heap.size<=x:=fun x hx=>by
 simp only[FB.blk,ρ]at hx⊢;rcases hx with e|e|e|e|e|e|e
 ·exact Or.inl (Or.inl e)
 ·exact Or.inl (Or.inr (Or.inl e))
 ·exact Or.inl (Or.inr (Or.inr (Or.inl e)))
 ·exact Or.inl (Or.inr (Or.inr (Or.inr (Or.inl e))))
 ·exact Or.inl (Or.inr (Or.inr (Or.inr (Or.inr (Or.inl e)))))
 ·exact Or.inl (Or.inr (Or.inr (Or.inr (Or.inr (Or.inr (Or.inl e))))))
 ·rcases hF x e with h|h
  ·exact Or.inl (Or.inr (Or.inr (Or.inr (Or.inr (Or.inr (Or.inr h))))))
  ·exact Or.inr h
section
variable {w:World}{p:Nat}{FF:List Nat}{A:NS}{st:Nat}{G:FG}
theorem xE.upd{w':World}{S:List Nat}(h:xE w p FF A st G)(hu:aa S w w')(hS:∀x,x∈S->x∉FF):xE w' p FF A st G:=by
 obtain⟨⟨B,F,gt,ct,rfl,rfl,M⟩,I⟩:=h;exact⟨⟨B,F,gt,ct,rfl,rfl,M.upd hu hS⟩,I⟩
theorem xE.lt(h:xE w p FF A st G):∀x,x∈FF->x<w.heap.size:=by
 obtain⟨⟨B,F,gt,ct,rfl,rfl,M⟩,I⟩:=h;exact M.lt
theorem xE.ok(h:xE w p FF A st G):A.Ok:=by
 obtain⟨⟨B,F,gt,ct,rfl,rfl,M⟩,I⟩:=h;exact M.cells.ok
theorem xE.pF(h:xE w p FF A st G):st<=4611686018427387904:=by
 obtain⟨⟨B,F,gt,ct,rfl,rfl,M⟩,I⟩:=h;exact M.cells.pF
theorem xE.cl(h:xE w p FF A st G):∃c F1,w.cell? ⟨p,0,none⟩=some (.pointer (some ⟨c,0,none⟩))/\aF w c F1 A st/\c∈FF:=by
 obtain⟨⟨B,F,gt,ct,rfl,rfl,M⟩,I⟩:=h;exact⟨B.c,F,M.h0,M.cells,jI _ M.cells.mem⟩
theorem Ma(I:zt A G)(ok:A.Ok){q:Int}{m:Nat}(hm:dL A q=some m):∃ (h:Nat) (s:List Nat),q=h/\1<=h/\h<A.hs.length/\G.R h=m::s/\0<dO A q:=by
 obtain⟨m1,m2⟩:=I.sZ hm;have hx:(A.c m).i=(q.toNat:Int):=m1.2.2;have hnat:=ok.nat m m1.1;refine⟨q.toNat,?_⟩;have hmem:=((I.fr.all q.toNat).2.1 m).2 ⟨m2,m1⟩;cases hR:G.R q.toNat with
 | nil=>rw[hR]at hmem;cases hmem
 | cons t s=>
  have:=(I.qm hR).1;rw[show((q.toNat:Nat):Int)=q by omega,hm]at this
  injection this with this
  subst this;exact⟨s,ω,m2,ω,rfl,fH.2 ⟨m,m1.1,ω,ω⟩⟩
theorem Hd(h:xE w p FF A st G)(q:Int)(hqb:-9223372036854775808<=q/\q<=9223372036854775807) :
  Calls Tryz.prog 224 #[.pointer (some ⟨p,0,none⟩),.int .i64 q] w fun e w'=>e=.returned (.tuple #[.int .i64 (qh (dL A q)),.bool (dL A q).isSome])/\w'=w:=by
 obtain⟨⟨B,F,gt,ct,rfl,rfl,M⟩,I⟩:=h;have h0:=M.h0;have kl:=pV M.cells q hqb;cases hm:dL A q with
 | none=>
  rw[iI.1 hm]at kl;clear M I hm
  go_enter Tryz.func224,Tryz.ntmps224
  go_wp2_with ((go_at_call 142;(with_reducible refine(kl).mono ?_);rintro e w9 ⟨rfl,aJ⟩;rw[aJ];clear aJ w9))
  go_ret2;exact⟨rfl,rfl⟩
 | some m=>
  obtain⟨hh,s,rfl,h1,hl,hR,hp⟩:=Ma I M.cells.ok hm;have h3:=M.h3;have ht:=M.top hl;rw[hR]at ht;have ht':w.cell? ⟨gt,hh,none⟩=some (.int .i64 (m:Int)):=ht;have hcap:=M.cap;have hlI:(hh:Int)<(A.hs.length:Int):=ω;have hne:(((dO A (hh:Int):Nat):Int) == 0)=false:=ζ;generalize dO A (hh:Int)=ln at *;clear M I hm hR ht
  go_enter Tryz.func224,Tryz.ntmps224
  go_wp2_with ((go_at_call 142;(with_reducible refine(kl).mono ?_);rintro e w9 ⟨rfl,aJ⟩;rw[aJ];clear aJ w9))
  go_ret2;exact⟨rfl,rfl⟩
theorem GM(h:xE w p FF A st G)(q x:Nat)(k s:Int)(hk:-9223372036854775808<=k/\k<=9223372036854775807/\0<=s/\s<=18446744073709551615)(hB:oG A q x=true) :
  Calls Tryz.prog 221 #[.pointer (some ⟨p,0,none⟩),.int .i64 (q:Int),.int .i64 (x:Int),.agg #[.int .i64 k,.int .u64 s]] w fun e w'=>e=.returned (.bool true)/\
   Goes FF w w' (fun Jl=>xE w' p Jl (aK A q x k s) (bT st (rV q G)) (Qu (aK A q x k s) q x G)):=by
 obtain⟨⟨B,F,gt,ct,rfl,rfl,M⟩,I⟩:=h;have ok:=M.cells.ok;obtain⟨I2,_,_,_,h1,hx,hin,hti,hcs⟩:=Yv I ok k s hB;have lT:(aK A q x k s).hs.length=A.hs.length:=by unfold aK;split;rfl;rfl
 have hql:q<(aK A q x k s).hs.length:=by
  rw[lT];have:=(aV _ _).1 ((fB _ _ _).1 hB).1;omega
 have u1:aa [] w (w.alloc (.cells #[.int .i64 k,.int .u64 s] 129)):=(aa.refl _ _).alloc _;have kp:=fun W (hW:aa [] (w.alloc (.cells #[.int .i64 k,.int .u64 s] 129)) W)=>nW (M.cells.au (u1.trans hW)) q x k s hk hB;have h0:=M.h0;have uW:B.n0∉F:=M.d1.1;have hsz:w.heap.size∉F:=fun hm=>by have:=M.cells.lt _ hm;omega
 have r0:∀W,aa F (w.alloc (.cells #[.int .i64 k,.int .u64 s] 129)) W->W.cell? ⟨B.n0,0,none⟩=some (.pointer (some ⟨B.c,0,none⟩)):=fun W hW=>hW.kept (u1.was h0) uW;have r1:∀W,aa F (w.alloc (.cells #[.int .i64 k,.int .u64 s] 129)) W->W.cell? ⟨w.heap.size,0,none⟩=some (.int .i64 k):=fun W h=>h.kept σ hsz;have r2:∀W,aa F (w.alloc (.cells #[.int .i64 k,.int .u64 s] 129)) W->W.cell? ⟨w.heap.size,1,none⟩=some (.int .u64 s):=fun W h=>h.kept σ hsz;have ka:=fun(W:World) (hM:fD W B F gt ct (aK A q x k s) st G)=>Cj hM [] hql hin hti;have HM:=χ (ψ M (ψ lT hcs));have HI:=χ I2
 clear M I ok I2 hin hti hql hx hcs lT h0 hB
 go_enter Tryz.func221,Tryz.ntmps221
 go_wp2
 go_region_held3 (aa F (w.alloc (.cells #[.int .i64 k,.int .u64 s] 129))) (exact ν)
  (first
   | ((go_at_call 154;(with_reducible refine(kp _ β).mono ?_));rintro e w1 ⟨rfl,jr,hu1⟩;(have hu2:aa F (w.alloc (.cells #[.int .i64 k,.int .u64 s] 129)) w1:=ν)))
 have uF:aa F w w1:=(u1.mono σ).trans hu2;have hM1:=HM.out.1.cB uF jr (fun y hy=>Or.inl hy) HM.out.2.2 HM.out.2.1;have ka1:=fun(W:World) (hW:aa [] w1 W)=>ka W (hM1.au hW);have HU:=χ uF;have hcm:=HM.out.1.cells.mem;clear kp r0 r1 r2 hM1 ka uF hu2 jr hu1
 go_wp2_with (first
  | ((go_at_call 230;(with_reducible refine(ka1 _ β).mono ?_));rintro e w2 ⟨rfl,hM2,hu3⟩)
  | fail)
 go_ret;refine⟨rfl,B.blk F gt,⟨⟨B,F,gt,ct,rfl,rfl,hM2⟩,HI.out⟩,(HU.out.mono jI).trans ((β:aa _ w1 _).trans (hu3.mono (fun y hy=>?_))),fun y hy=>Or.inl hy⟩;simp only[ρ,ς,or_false]at hy;rcases hy with e|e|e|e
 ·rw[e];exact jI _ hcm
 all_goals simp[FB.blk,e]
end
end Go.Proofs.YtklibcncmbofpaaGreat
