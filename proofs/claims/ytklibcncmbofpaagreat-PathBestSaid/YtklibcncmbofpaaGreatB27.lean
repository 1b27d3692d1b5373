/-
  Lemmas for PathBest: FbS, FbU, FbV, Fb4. Conditions: those of each lemma.
-/
import Derived.Test.YtklibcncmbofpaaGreatB26
set_option linter.all false
set_option maxHeartbeats 8000000
set_option maxRecDepth 10000
namespace Go.Proofs.YtklibcncmbofpaaGreat
def zh (l:List Nat) (x:Nat):List Nat:=(l.dropWhile (fun z=>z != x)).tail++l.takeWhile (fun z=>z != x)
theorem O5 {l:List Nat} {x:Nat} (hx:x∈l) (hn:l.Nodup):∃a b,l=a++x::b/\x∉a/\x∉b/\l.takeWhile (fun z=>z != x)=a/\(l.dropWhile (fun z=>z != x)).tail=b:=by
 obtain ⟨a,b,rfl⟩:=List.append_of_mem hx;rw [θ,List.nodup_cons] at hn;have h1:x∉a:=fun h=>hn.2.2 x h x σ rfl;have hp:∀z,z∈a->(z != x)=true:=fun z hz=>by simp;intro e;subst e;exact h1 hz
 refine ⟨a,b,rfl,h1,hn.2.1.1,?_,?_⟩
 ·rw [List.takeWhile_append_of_pos hp,List.takeWhile_cons_of_neg σ];simp
 ·rw [List.dropWhile_append_of_pos hp,List.dropWhile_cons_of_neg σ];rfl
theorem IY {l:List Nat} {x:Nat} (hx:x∈l) (hn:l.Nodup):∃a b,l=a++x::b/\zh l x=b++a/\x∉a/\x∉b:=by
 obtain ⟨a,b,h1,h2,h3,h4,h5⟩:=O5 hx hn;exact ⟨a,b,h1,by unfold zh;rw [h4,h5],h2,h3⟩
def fD (h x:Nat) (G:FG):FG:=
 { (match G.R h with|[]=>prt G x|t::_=>Np (prt G x) t x) with
  up:=az G.up x (-1),mr:=az G.mr x false,K:=az G.K (G.up x).toNat (zh (G.K (G.up x).toNat) x),R:=match G.R h with|[]=>G.R|t::s=>az G.R h (t::x::s) }
def rM:Nat->Nat->Nat->FG->FG
 | 0,_,_,G=>G
 | f+1,h,x,G=>if G.up x=-1 then G else if G.mr x=false then { G with mr:=az G.mr x true } else rM f h (G.up x).toNat (fD h x G)
def marks (n:Nat) (G:FG):Nat:=((List.range n).filter G.mr).length
theorem Ad {p:Nat->Bool} {x:Nat} {b:Bool}:∀l:List Nat,l.Nodup->x∈l->(l.filter (az p x b)).length+(if p x then 1 else 0)=(l.filter p).length+(if b then 1 else 0)
 | [],_,h=>by cases h
 | y::t,hn,hx=>by
  rw [List.nodup_cons] at hn
  by_cases e:y=x
  ·subst e;have hc:t.filter (az p y b)=t.filter p:=List.filter_congr (fun z hz=>bg _ _ (fun e=>hn.1 (e▸hz)));have h1:az p y b y=b:=bV _ _ _;rw [List.filter_cons,List.filter_cons,h1,hc];cases b<;>cases p y<;>simp
  ·have ih:=Ad (p:=p) (b:=b) t hn.2 (by rcases ρ.1 hx with h|h;exact absurd h.symm e;exact h);have h1:az p x b y=p y:=bg _ _ e;rw [List.filter_cons,List.filter_cons,h1];cases p y<;>simp<;>omega
theorem tq {n:Nat} {G:FG} {x:Nat} {b:Bool} {mr:Nat->Bool} (hx:x<n) (hm:mr=az G.mr x b) (G':FG) (e:G'.mr=mr):marks n G'+(if G.mr x then 1 else 0)=marks n G+(if b then 1 else 0):=by
 unfold marks;rw [e,hm];exact Ad _ List.nodup_range (by simpa using hx)
section
variable {n:Nat} {G:FG} {bO:Nat->Int} {L M:Nat->Nat->Prop} {ex:Nat->Nat}
theorem z8 (H:FF n G bO L ex) (R:FR n G bO M none) {h x p t:Nat} {s:List Nat} (hR:G.R h=t::s) (hx:x<n) (ux:G.up x=p) (hpx:p≠x) (hh:bO x=h) (hL:M t x) :
  FF n (fD h x G) bO L (fun c=>if c=p then ex c+1 else ex c)/\FR n (fD h x G) bO M none/\(fD h x G).up=az G.up x (-1)/\(fD h x G).mr=az G.mr x false/\(fD h x G).K=az G.K p (zh (G.K p) x)/\
   (fD h x G).R=az G.R h (t::x::s)/\(∃a b,G.K p=a++x::b/\zh (G.K p) x=b++a)/\G.nx x=(zh (G.K p) x).headD x:=by
 obtain ⟨hp,hxk⟩:=H.above hx ux;obtain ⟨q1,q2,q3⟩:=R.all h;obtain ⟨h1,ht,ut,htm⟩:=(q2 t).1 (by rw [hR];simp);have Mh:=H.ring p hp;obtain ⟨a,b,eK,eA,xa,xb⟩:=IY hxk Mh.nd;have hkp:∀z,z∈G.K p->z<n/\G.up z=p:=fun z hz=>H.kid p z hp hz;have QE:Ring G.nx (x::(b++a)):=by rw [eK] at Mh;exact Ring.WK (a:=a) (b:=x::b) Mh
 have hmem:∀z,z∈x::(b++a)↔z∈G.K p:=fun z=>by rw [eK];simp;grind
 have hall:∀z,z∈x::(b++a)->z<n:=fun z hz=>(hkp z ((hmem z).1 hz)).1;obtain ⟨p1,p2⟩:=H.rg.part QE hall;have hpm:G.pv x∈G.K p:=by
  rw [←hmem];rcases List.eq_nil_or_concat (b++a) with e|⟨c,y,e⟩
  ·rw [e] at QE;have e1:=jI.1 QE;have:=H.rg.pn x hx;rw [e1] at this;rw [this];simp
  ·rw [List.concat_eq_append] at e;have:=H.rg.last (x:=x) (y:=y) (a:=c) (by rw [List.cons_append,←e];exact QE) (hall y (by rw [e];simp));rw [this,e];simp
 have hpv:=hkp _ hpm;have htx:t≠x:=fun e=>by subst e;omega
 have htp:t≠G.pv x:=fun e=>by rw [←e] at hpv;omega
 have ux':(fD h x G).up=az G.up x (-1):=rfl;have mx':(fD h x G).mr=az G.mr x false:=rfl;have K':(fD h x G).K=az G.K p (b++a):=by show az G.K (G.up x).toNat _=_;rw [ux,π,eA]
 have R':(fD h x G).R=az G.R h (t::x::s):=by show (match G.R h with|[]=>G.R|t::s=>az G.R h (t::x::s))=_;rw [hR]
 have nx':(fD h x G).nx=dK (dK G.nx x (G.pv x)) t x:=by unfold fD;rw [hR];rfl
 have pv':(fD h x G).pv=jO (dK G.nx x (G.pv x)) (jO G.nx G.pv x (G.pv x)) t x:=by unfold fD;rw [hR];rfl
 have far:∀l,Ring G.nx l->x∉l->G.pv x∉l->t∉l->Ring (fD h x G).nx l:=fun l hl e1 e2 e3=>by rw [nx'];exact (hl.oz e1 e2).oz e3 e1
 have Pd:∀y,y≠x->(fD h x G).up y=G.up y:=fun y hy=>by rw [ux',bg _ _ hy]
 have YB:(fD h x G).up x=-1:=by rw [ux',bV]
 have Kp:(fD h x G).K p=b++a:=by rw [K',bV]
 have Kn:∀y,y≠p->(fD h x G).K y=G.K y:=fun y hy=>by rw [K',bg _ _ hy]
 have YL:∀y,y<n->y≠p->x∉G.K y:=fun y hy hyp hm=>hyp (by have:=(H.kid y x hy hm).2;omega);have hpos:(0:Int)<bO p/\(0:Int)<bO x:=by
  have:=H.home x p hx ux;exact ⟨by rw [←this.1];exact this.2,this.2⟩
 have hlen:(G.K p).length=(b++a).length+1:=by rw [eK];simp;omega
 have mono:∀c,c≠x->(G.K c).length+(if G.mr c then 1 else 0)+ex c<=((fD h x G).K c).length+(if (fD h x G).mr c then 1 else 0)+(if c=p then ex c+1 else ex c):=fun c hc=>by
  rw [mx',bg _ _ hc]
  by_cases e:c=p
  ·rw [e,Kp,hlen,if_pos rfl];omega
  ·rw [Kn c e,if_neg e];omega
 refine ⟨⟨?_,fun y z hy hz=>?_,fun y hy=>?_,fun y hy=>?_,fun y q hy hu=>?_,fun y q hy hu=>?_,fun y hy h0=>?_,fun y hy hu=>?_,fun y d hy=>?_⟩,⟨fun g _=>?_,fun g y _=>?_,fun g t' s' _ hR'=>?_⟩,ux',mx',by rw [eA];exact K',R',⟨a,b,eK,eA⟩,by rw [eA];exact (ji.1 QE).2.1⟩
 ·rw [nx',pv'];exact (H.rg.swap hx hpv.1).swap ht hx
 ·by_cases e:y=p
  ·subst e;rw [Kp] at hz;have hzk:z∈G.K y:=(hmem z).1 (by simp at hz ⊢;exact Or.inr hz);have hzx:z≠x:=fun e=>by subst e;simp at hz;rcases hz with h|h;exact xb h;exact xa h
   rw [Pd z hzx];exact H.kid y z hy hzk
  ·rw [Kn y e] at hz;have hzx:z≠x:=fun e2=>YL y hy e (e2▸hz);rw [Pd z hzx];exact H.kid y z hy hz
 ·by_cases e:y=x
  ·subst e;exact Or.inl YB
  ·rw [Pd y e];rcases H.FQ y hy with e1|⟨q,hq,e1,e2⟩
   ·exact Or.inl e1
   ·refine Or.inr ⟨q,hq,e1,?_⟩
    by_cases e3:q=p
    ·subst e3;rw [Kp];rcases ρ.1 ((hmem y).2 e2) with e4|e4
     ·exact absurd e4 e
     ·exact e4
    ·rw [Kn q e3];exact e2
 ·by_cases e:y=p
  ·subst e;rw [Kp,nx'];exact p2.oz (fun hm=>by have:=(hkp t ((hmem t).1 (by simp at hm ⊢;exact Or.inr hm))).2;omega) (fun hm=>by simp at hm;rcases hm with h|h;exact xb h;exact xa h)
  ·rw [Kn y e];exact far _ (H.ring y hy) (YL y hy e) (fun hm=>e (by have:=(H.kid y _ hy hm).2;omega)) (H.sV hy ut)
 ·have hyx:y≠x:=fun e=>by subst e;rw [YB] at hu;omega
  rw [Pd y hyx] at hu;exact H.home y q hy hu
 ·have hyx:y≠x:=fun e=>by subst e;rw [YB] at hu;omega
  rw [Pd y hyx] at hu;exact H.ord y q hy hu
 ·obtain ⟨a1,a2,a3⟩:=H.alone y hy h0;have hyx:y≠x:=fun e=>h0 (by rw [e];exact hpos.2);have hyp:y≠p:=fun e=>h0 (by rw [e];exact hpos.1);have hyv:y≠G.pv x:=fun e=>by rw [←e] at hpv;omega
  have XK:y≠t:=fun e=>h0 (by rw [e,htm];omega);exact ⟨by rw [Pd y hyx];exact a1,by rw [Kn y hyp];exact a2,by rw [nx',jk XK hyx,jk hyx hyv];exact a3⟩
 ·rw [mx']
  by_cases e:y=x
  ·rw [e,bV]
  ·rw [Pd y e] at hu;rw [bg _ _ e];exact H.free y hy hu
 ·by_cases e:y=p
  ·subst e;rw [Kp];have m1:few (fD h x G) (fun c=>if c=y then ex c+1 else ex c) (b++a) d<=few G ex (b++a) d:=FU d (fun c hc=>mono c (fun e=>by subst e;simp at hc;rcases hc with h|h;exact xb h;exact xa h));have m2:few G ex (G.K y) d=few G ex (x::(b++a)) d:=Hd _ _ (by rw [eK];exact List.perm_append_comm (l₁:=a) (l₂:=x::b)) d;rw [Fh] at m2;have m3:=H.cnt y d hy;omega
  ·rw [Kn y e];exact Nat.le_trans (FU d (fun c hc=>mono c (fun e2=>YL y hy e (e2▸hc)))) (H.cnt y d hy)
 ·obtain ⟨r1,r2,_⟩:=R.all g
  by_cases e:g=h
  ·subst e;rw [R',bV,nx'];have hs1:Ring (dK G.nx x (G.pv x)) (t::s):=by
    rw [←hR];exact r1.oz (fun hm=>by have:=((r2 x).1 hm).2.2.1;omega) (fun hm=>by have:=((r2 _).1 hm).2.2.1;omega)
   exact Ring.join hs1 p1 (fun z hz hm=>by
    simp at hm;subst hm;have:=((r2 z).1 (by rw [hR];exact hz)).2.2.1
    omega)
  ·rw [R',bg _ _ e];exact far _ r1 (fun hm=>by have:=((r2 x).1 hm).2.2.1;omega) (fun hm=>by have:=((r2 _).1 hm).2.2.1;omega) (fun hm=>e (by have:=((r2 t).1 hm).2.2.2;omega))
 ·rw [R'];have old:=(R.all g).2.1 y
  by_cases e:g=h
  ·subst e;rw [bV];have:y∈t::x::s↔y=x\/y∈G.R g:=by rw [hR];simp;grind
   rw [this,old]
   by_cases e2:y=x
   ·subst e2;simp [YB,h1,hx,hh]
   ·rw [Pd y e2];simp [e2,Ao]
  ·rw [bg _ _ e,old]
   by_cases e2:y=x
   ·subst e2;constructor
    ·rintro ⟨_,_,a2,_⟩;omega
    ·rintro ⟨_,_,_,a3⟩;exact absurd (show g=h by omega) e
   ·rw [Pd y e2];exact Iff.rfl
 ·rw [R'] at hR'
  by_cases e:g=h
  ·subst e;rw [bV] at hR';have e1:t=t':=by injection hR'
   have e2:x::s=s':=by injection hR'
   subst e1 e2;intro y hy;rcases ρ.1 hy with rfl|hy
   ·exact hL
   ·exact q3 t s hR y hy
  ·rw [bg _ _ e] at hR';exact (R.all g).2.2 t' s' hR'
theorem Tn (Z0:∀a,¬L a a) {h t:Nat}:∀ (f p:Nat) (s:List Nat) (G:FG),FF n G bO L (fun c=>if c=p then 1 else 0)->FR n G bO M none->G.R h=t::s->p<n->bO p=h->1<=h->(∀y,y<n->bO y=h->y≠t->M t y)->marks n G<f->
  FF n (rM f h p G) bO L (fun _=>0)/\FR n (rM f h p G) bO M none/\(∃s',(rM f h p G).R h=t::s')/\(∀g,g≠h->(rM f h p G).R g=G.R g)/\
   (G.R h).length<=((rM f h p G).R h).length/\((rM f h p G).R h).length+marks n (rM f h p G)<=(G.R h).length+marks n G+1/\marks n (rM f h p G)<=marks n G+1/\(∀y,G.up y=-1->(rM f h p G).up y=-1)
 | 0,p,s,G,H,R,hR,hp,hh,h1,hf,hm=>ω
 | f+1,p,s,G,H,R,hR,hp,hh,h1,hf,hm=>by
  unfold rM
  by_cases e:G.up p=-1
  ·rw [if_pos e];refine ⟨⟨H.rg,H.kid,H.FQ,H.ring,H.home,H.ord,H.alone,H.free,fun x d hx=>?_⟩,R,⟨s,hR⟩,fun _ _=>rfl,Nat.le_refl _,ω,ω,fun _ h=>h⟩
   rw [tQ (G:=G) (ex:=fun c=>if c=p then 1 else 0) d (fun c hc=>by
    have hcp:c≠p:=fun e2=>H.sV hx e (e2▸hc)
    rw [if_neg hcp])]
   exact H.cnt x d hx
  ·rw [if_neg e]
   by_cases e2:G.mr p=false
   ·rw [if_pos e2];have hmk:=tq (G:=G) (b:=true) hp rfl { G with mr:=az G.mr p true } rfl;rw [e2] at hmk;simp only [Bool.false_eq_true,if_false,if_true] at hmk;refine ⟨⟨H.rg,H.kid,H.FQ,H.ring,H.home,H.ord,H.alone,fun y hy hu=>?_,fun x d hx=>?_⟩,⟨R.ring,R.mem,R.top⟩,⟨s,hR⟩,fun _ _=>rfl,Nat.le_refl _,by show (G.R h).length+_<=_;omega,by omega,fun _ h=>h⟩
    ·have hyp:y≠p:=fun e3=>e (e3▸hu)
     show az G.mr p true y=false
     rw [bg _ _ hyp];exact H.free y hy hu
    ·have:=tQ (G:=G) (G':={ G with mr:=az G.mr p true }) (ex:=fun c=>if c=p then 1 else 0) (Yg:=fun _=>0) (l:=G.K x) d (fun c hc=>by
      by_cases e3:c=p
      ·subst e3
       show (G.K c).length+(if az G.mr c true c=true then 1 else 0)+0=_
       rw [bV,e2];simp
      ·show (G.K c).length+(if az G.mr p true c=true then 1 else 0)+0=_
       rw [bg _ _ e3,if_neg e3])
     show few { G with mr:=az G.mr p true } (fun _=>0) (G.K x) d<=d
     rw [this];exact H.cnt x d hx
   ·rw [if_neg e2];obtain ⟨q,hq,uq,hpq⟩:=(H.FQ p hp).resolve_left e;rw [uq,π];have ZX:q≠p:=fun e3=>by subst e3;exact Z0 _ (H.ord q q hp uq)
    have htp:p≠t:=fun e3=>by
     subst e3;have:=((R.all h).2.1 p).1 (by rw [hR];simp);exact e this.2.2.1
    obtain ⟨o1,o2,o3,o4,o5,o6,o7,_⟩:=z8 H R hR hp uq ZX hh (hf p hp hh htp);have hqh:bO q=h:=by have:=(H.home p q hp uq).1;omega
    have hmk:=tq (G:=G) (b:=false) hp rfl (fD h p G) o4;have e2':G.mr p=true:=by simpa using e2
    rw [e2'] at hmk;simp only [Bool.false_eq_true,if_false,if_true] at hmk;have ZN:FF n (fD h p G) bO L (fun c=>if c=q then 1 else 0):=by
     refine ⟨o1.rg,o1.kid,o1.FQ,o1.ring,o1.home,o1.ord,o1.alone,o1.free,fun x d hx=>?_⟩;have X4:(fD h p G).up p=-1:=by rw [o3,bV]
     rw [tQ (G:=fD h p G) (ex:=fun c=>if c=q then (if c=p then 1 else 0)+1 else if c=p then 1 else 0) d (fun c hc=>by
      have hcp:c≠p:=fun e3=>o1.sV hx X4 (e3▸hc)
      rw [if_neg hcp])]
     exact o1.cnt x d hx
    have oR:(fD h p G).R h=t::p::s:=by rw [o6,bV]
    obtain ⟨r1,r2,r3,r4,r5,r6,r7,r8⟩:=Tn Z0 f q (p::s) (fD h p G) ZN o2 oR hq hqh h1 hf ω;rw [oR] at r5 r6;rw [hR];simp only [List.length_cons] at r5 r6 ⊢;refine ⟨r1,r2,r3,fun g hg=>by rw [r4 g hg,o6,bg _ _ hg],ω,ω,ω,fun y hy=>r8 y ?_⟩;have hyp:y≠p:=fun e3=>e (e3▸hy);rw [o3,bg _ _ hyp];exact hy
end
def kT (n h x:Nat) (G:FG):FG:=if G.up x=-1 then G else rM (marks n (fD h x G)+1) h (G.up x).toNat (fD h x G)
def KO (h x:Nat) (G:FG):FG:={ G with R:=az G.R h (x::zh (G.R h) x) }
def gu (A':NS) (h x:Nat) (G:FG):FG:=if G.up x≠-1/\o9 A' x (G.up x).toNat=true then kT A'.cs.length h x G else G
def lQ (A':NS) (h x:Nat) (G:FG):FG:=if mX ((gu A' h x G).R h)≠x/\o9 A' x (mX ((gu A' h x G).R h)).toNat=true then KO h x (gu A' h x G) else gu A' h x G
def xC (A':NS) (h x:Nat) (G:FG):Nat:=(if G.up x=-1 then 0 else 1)+(if mX ((gu A' h x G).R h)=x then 0 else 1)
def P8 (A':NS) (h x:Nat) (G:FG):FG:=iW (o9 A') h [x] G
section
variable {A:NS} {G:FG}
theorem FR.imp {n:Nat} {bO:Nat->Int} {L M:Nat->Nat->Prop} {g:Option Nat} (R:FR n G bO L g) (h:∀g t s,G.R g=t::s->∀y,y∈s->L t y->M t y):FR n G bO M g:=
 ⟨R.ring,R.mem,fun g t s hg hR y hy=>h g t s hR y hy (R.top g t s hg hR y hy)⟩
theorem LD (I:yJ A G) {x h:Nat} {k s0:Int} (hB:jo A x k s0=true) (hx:x<A.cs.length) (hh:(A.c x).i=h) (h1:1<=h) :
  ∃t s,G.R h=t::s/\(∀p:Nat,G.up x=p->p≠x/\
   FF A.cs.length (fD h x G) (fun y=>(A.c y).i) (cZ (aB A x k s0)) (fun c=>if c=p then 0+1 else 0)/\FR A.cs.length (fD h x G) (fun y=>(A.c y).i) (fun a y=>y≠x->cZ (aB A x k s0) a y) none/\(fD h x G).R h=t::x::s/\
   (∀y,y<A.cs.length->(A.c y).i=h->y≠t->y≠x->cZ (aB A x k s0) t y))/\
  FF A.cs.length (gu (aB A x k s0) h x G) (fun y=>(A.c y).i) (cZ (aB A x k s0)) (fun _=>0)/\FR A.cs.length (gu (aB A x k s0) h x G) (fun y=>(A.c y).i) (fun a y=>y≠x->cZ (aB A x k s0) a y) none/\
   (∃s',(gu (aB A x k s0) h x G).R h=t::s')/\(∀g,g≠h->(gu (aB A x k s0) h x G).R g=G.R g)/\((gu (aB A x k s0) h x G).up x=-1\/(t≠x/\cZ (aB A x k s0) t x))/\
   (G.R h).length<=((gu (aB A x k s0) h x G).R h).length/\((gu (aB A x k s0) h x G).R h).length+marks A.cs.length (gu (aB A x k s0) h x G)<=(G.R h).length+marks A.cs.length G+2/\marks A.cs.length (gu (aB A x k s0) h x G)<=marks A.cs.length G+1:=by
 have hc:=rA hB hx;have hle:=tJ hB;rw [π] at hle;have low:∀a y,y≠x->cZ A a y->cZ (aB A x k s0) a y:=fun a y hy hl=>by
  by_cases e:a=x
  ·subst e;exact mD hl (by rw [hc,if_neg hy]) (by rw [hc,if_pos rfl];exact hle)
  ·exact (fP (by rw [hc,if_neg e]) (by rw [hc,if_neg hy])).2 hl
 obtain ⟨t,s,hR⟩:∃t s,G.R h=t::s:=by
  cases hRR:G.R h with
  | nil=>
   have h2:=I.QO hRR;have h3:=(jT (A:=A) (h:=(h:Int)) ω).1 h2;have:0<dZ A (h:Int):=fM.2 ⟨x,hx,hh,ω⟩;omega
  | cons t s=>exact ⟨t,s,rfl⟩
 have lK:∀y,y<A.cs.length->(A.c y).i=h->y≠t->y≠x->cZ (aB A x k s0) t y:=fun y hy hyh XK hyx=>low t y hyx (I.first hR hy hyh XK);have F':FF A.cs.length G (fun y=>(A.c y).i) (fun a y=>y≠x->cZ (aB A x k s0) a y) (fun _=>0):=I.ff.mono (fun y p hy hu ho=>⟨(I.ff.home y p hy hu).1,(I.ff.home y p hy hu).2,fun hyx=>low p y hyx ho⟩) I.ff.alone;have R':FR A.cs.length G (fun y=>(A.c y).i) (fun a y=>y≠x->cZ (aB A x k s0) a y) none:=I.fr.imp (fun g t s hR y hy hl hyx=>low t y hyx hl)
 have off:∀p:Nat,G.up x=p->p≠x/\FF A.cs.length (fD h x G) (fun y=>(A.c y).i) (cZ (aB A x k s0)) (fun c=>if c=p then 0+1 else 0)/\FR A.cs.length (fD h x G) (fun y=>(A.c y).i) (fun a y=>y≠x->cZ (aB A x k s0) a y) none/\(fD h x G).R h=t::x::s/\
   ((fD h x G).up=az G.up x (-1)/\(fD h x G).mr=az G.mr x false/\∀g,g≠h->(fD h x G).R g=G.R g):=fun p hp=>by
  have hpx:p≠x:=fun e=>by subst e;exact vQ (I.ff.ord p p hx hp)
  obtain ⟨o1,o2,o3,o4,o5,o6,_,_⟩:=z8 F' R' hR hx hp hpx hh (fun h=>absurd rfl h);refine ⟨hpx,o1.mono (fun y q hy hu ho=>⟨(o1.home y q hy hu).1,(o1.home y q hy hu).2,ho (fun e=>?_)⟩) o1.alone,o2,by rw [o6,bV],o3,o4,fun g hg=>by rw [o6,bg _ _ hg]⟩;subst e;rw [o3,bV] at hu;omega
 refine ⟨t,s,hR,fun p hp=>⟨(off p hp).1,(off p hp).2.1,(off p hp).2.2.1,(off p hp).2.2.2.1,lK⟩,?_⟩
 by_cases hup:G.up x=-1
 ·have e:gu (aB A x k s0) h x G=G:=by unfold gu;rw [if_neg (by simp [hup])]
  rw [e];exact ⟨F'.mono (fun y p hy hu ho=>⟨(F'.home y p hy hu).1,(F'.home y p hy hu).2,ho (fun e=>by subst e;omega)⟩) F'.alone,R',⟨s,hR⟩,fun _ _=>rfl,Or.inl hup,Nat.le_refl _,ω,ω⟩
 ·obtain ⟨p,hp,ux,_⟩:=(I.ff.FQ x hx).resolve_left hup;have ZT:(A.c p).i=h:=by have:(A.c x).i=(A.c p).i:=(I.ff.home x p hx ux).1;omega
  cases hl:o9 (aB A x k s0) x (G.up x).toNat with
  | true=>
   have e:gu (aB A x k s0) h x G=kT A.cs.length h x G:=by unfold gu;rw [if_pos ⟨hup,hl⟩,fJ]
   rw [e];obtain ⟨o0,o1,o2,o3,o4,o5,o6⟩:=off p ux;have hL:cZ (aB A x k s0) x p:=by rw [ux,π] at hl;unfold o9 at hl;simpa using hl
   obtain ⟨r1,r2,r3,r4,r5,r6,r7,r8⟩:=by
    have e':kT A.cs.length h x G=rM (marks A.cs.length (fD h x G)+1) h p (fD h x G):=by unfold kT;rw [ux,if_neg ω,π]
    have:=Tn (M:=fun a y=>y≠x->cZ (aB A x k s0) a y) (L:=cZ (aB A x k s0)) (fun a=>vQ) (marks A.cs.length (fD h x G)+1) p (x::s) (fD h x G) (by simpa using o1) o2 o3 hp ZT h1 (fun y hy hyh XK hyx=>lK y hy hyh XK hyx) ω;rw [←e'] at this;exact this
   have hmk:=tq (G:=G) (b:=false) hx rfl (fD h x G) o5;simp only [Bool.false_eq_true,if_false] at hmk;rw [o3] at r5 r6;rw [hR];simp only [List.length_cons] at r5 r6 ⊢;exact ⟨r1,r2,r3,fun g hg=>(r4 g hg).trans (o6 g hg),Or.inl (r8 x (by rw [o4,bV])),ω,ω,ω⟩
  | false=>
   have e:gu (aB A x k s0) h x G=G:=by unfold gu;rw [if_neg (by simp [hl])]
   rw [e];have hpx:p≠x:=(off p ux).1;have hnl:cZ (aB A x k s0) p x:=by
    rw [ux,π] at hl;unfold o9 at hl;have:¬cZ (aB A x k s0) x p:=by simpa using hl
    exact (jm hpx).resolve_right this
   have htx:t≠x:=fun e=>by
    subst e;have:=(I.qc hR).2.2.2.1;omega
   refine ⟨F'.mono (fun y q hy hu ho=>⟨(F'.home y q hy hu).1,(F'.home y q hy hu).2,?_⟩) F'.alone,R',⟨s,hR⟩,fun _ _=>rfl,Or.inr ⟨htx,?_⟩,Nat.le_refl _,ω,ω⟩
   ·by_cases e2:y=x
    ·subst e2;obtain rfl:q=p:=ω;exact hnl
    ·exact ho e2
   ·by_cases e2:p=t
    ·subst e2;exact hnl
    ·exact cz (lK p hp ZT e2 hpx) hnl
theorem XZ (I:yJ A G) {x h:Nat} {k s0:Int} (hB:jo A x k s0=true) (hx:x<A.cs.length) (hh:(A.c x).i=h) (h1:1<=h) :
  yJ (aB A x k s0) (lQ (aB A x k s0) h x G)/\(∀g,g≠h->(lQ (aB A x k s0) h x G).R g=G.R g)/\(G.R h).length<=((lQ (aB A x k s0) h x G).R h).length/\
   ((lQ (aB A x k s0) h x G).R h).length+marks A.cs.length (lQ (aB A x k s0) h x G)<=(G.R h).length+marks A.cs.length G+2/\marks A.cs.length (lQ (aB A x k s0) h x G)<=marks A.cs.length G+1:=by
 obtain ⟨t,s,hR,_,f1,f2,⟨s',FX⟩,f4,f5,f6,f7,f8⟩:=LD I hB hx hh h1;have hi:∀y,((aB A x k s0).c y).i=(A.c y).i:=iR hB hx;have hl:=fJ A x k s0;obtain ⟨q1,q2,q3⟩:=f2.all h;rw [FX] at q1;have hnd:=List.nodup_cons.1 q1.nd;have hF:∀G',FF A.cs.length G' (fun y=>(A.c y).i) (cZ (aB A x k s0)) (fun _=>0)->FF (aB A x k s0).cs.length G' (fun y=>((aB A x k s0).c y).i) (cZ (aB A x k s0)) (fun _=>0):=fun G' H=>by
  rw [hl,show (fun y=>((aB A x k s0).c y).i)=(fun y=>(A.c y).i) from funext hi];exact H
 have hRR:∀G',FR A.cs.length G' (fun y=>(A.c y).i) (cZ (aB A x k s0)) none->FR (aB A x k s0).cs.length G' (fun y=>((aB A x k s0).c y).i) (cZ (aB A x k s0)) none:=fun G' H=>by
  rw [hl,show (fun y=>((aB A x k s0).c y).i)=(fun y=>(A.c y).i) from funext hi];exact H
 have xg:∀g,g≠h->x∉(gu (aB A x k s0) h x G).R g:=fun g hg hm=>by
  have:=(((f2.all g).2.1 x).1 hm).2.2.2;simp only at this;omega
 by_cases hc:mX ((gu (aB A x k s0) h x G).R h)≠x/\o9 (aB A x k s0) x (mX ((gu (aB A x k s0) h x G).R h)).toNat=true
 ·have e:lQ (aB A x k s0) h x G=KO h x (gu (aB A x k s0) h x G):=by unfold lQ;rw [if_pos hc]
  rw [e];rw [FX] at hc;have htx:t≠x:=fun e2=>hc.1 (by rw [e2];rfl);have hlt:cZ (aB A x k s0) x t:=by
   have:=hc.2;unfold o9 mX at this;simpa using this
  have ux:(gu (aB A x k s0) h x G).up x=-1:=f5.resolve_right (fun h'=>qo hlt h'.2);have hm:x∈t::s':=by rw [←FX];exact (q2 x).2 ⟨h1,hx,ux,hh⟩
  obtain ⟨a,b,e1,e2,xa,xb⟩:=IY hm q1.nd;have eR:(KO h x (gu (aB A x k s0) h x G)).R h=x::(b++a):=by
   show az _ h _ h=_
   rw [bV,FX,e2]
  have eR':∀g,g≠h->(KO h x (gu (aB A x k s0) h x G)).R g=(gu (aB A x k s0) h x G).R g:=fun g hg=>bg _ _ hg;have hmm:∀z,z∈x::(b++a)↔z∈t::s':=fun z=>by rw [e1];simp;grind
  have hlen:(x::(b++a)).length=((gu (aB A x k s0) h x G).R h).length:=by rw [FX,e1];simp;omega
  refine ⟨⟨hF _ (f1.dG _),hRR _ ⟨fun g _=>?_,fun g y _=>?_,fun g t' s'' _ hR' y hy=>?_⟩⟩,fun g hg=>by rw [eR' g hg,f4 g hg],by rw [eR,hlen];exact f6,by rw [eR,hlen];exact f7,f8⟩
  ·by_cases eg:g=h
   ·subst eg;rw [eR];rw [e1] at q1;exact Ring.WK (a:=a) (b:=x::b) q1
   ·rw [eR' g eg];exact (f2.all g).1
  ·by_cases eg:g=h
   ·subst eg;rw [eR,hmm,←FX];exact q2 y
   ·rw [eR' g eg];exact (f2.all g).2.1 y
  ·by_cases eg:g=h
   ·subst eg;rw [eR] at hR';have e3:x=t':=by injection hR'
    have e4:b++a=s'':=by injection hR'
    subst e3 e4;have hy2:=(hmm y).1 (by simp only [ρ];exact Or.inr hy);have hyx:y≠x:=fun e=>by subst e;simp at hy;rcases hy with h|h;exact xb h;exact xa h
    rcases ρ.1 hy2 with rfl|hy2
    ·exact hlt
    ·exact cz hlt (q3 t s' FX y hy2 hyx)
   ·rw [eR' g eg] at hR';have hyx:y≠x:=fun e=>xg g eg (by rw [hR',←e];simp [hy]);exact (f2.all g).2.2 t' s'' hR' y hy hyx
 ·have e:lQ (aB A x k s0) h x G=gu (aB A x k s0) h x G:=by unfold lQ;rw [if_neg hc]
  rw [e];refine ⟨⟨hF _ f1,hRR _ (f2.imp (fun g t' s'' hR' y hy hl2=>?_))⟩,f4,f6,f7,f8⟩
  by_cases eyx:y=x
  ·by_cases eg:g=h
   ·subst eg;rw [FX] at hR' hc;have e3:t=t':=by injection hR'
    have e4:s'=s'':=by injection hR'
    subst e3 e4 eyx;have hty:t≠y:=fun e=>hnd.1 (e▸hy);have:¬cZ (aB A y k s0) y t:=fun hlt=>hc ⟨fun e=>hty (by have:(t:Int)=(y:Int):=e;omega),by unfold o9 mX;simpa using hlt⟩;exact (jm hty).resolve_right this
   ·subst eyx;exact absurd (by rw [hR'];simp [hy]) (xg g eg)
  ·exact hl2 eyx
end
theorem Aj.done {n:Nat} {bO:Nat->Int} {L:Nat->Nat->Prop} {h:Nat} {G:FG} (H:Aj n bO L h [] G) (h1:1<=h):FR n G bO L none:=by
 refine ⟨fun g _=>?_,fun g y _=>?_,fun g t s _ hR=>?_⟩
 all_goals by_cases e:g=h
 ·subst e;exact H.ring
 ·exact H.fr.ring g (by simp;exact e)
 ·subst e;constructor
  ·intro hm;exact ⟨h1,H.mem y hm⟩
  ·rintro ⟨_,a⟩;rcases H.all y a with b|b
   ·exact b
   ·cases b
 ·exact H.fr.mem g y (by simp;exact e)
 ·subst e;exact H.top t s hR
 ·exact H.fr.top g t s (by simp;exact e) hR
section
variable {A:NS} {G:FG}
theorem Yh (n:Nat):yJ (NS.new n) FG.none:=by
 have hl:(NS.new n).cs.length=n:=by simp [NS.new]
 have hz:∀y,((NS.new n).c y).i=0:=fun y=>by rw [NS.yc];rfl
 refine ⟨⟨⟨fun x hx=>hx,fun x hx=>hx,fun _ _=>rfl,fun _ _=>rfl⟩,fun x y _ hy=>(by cases hy),fun y _=>Or.inl rfl,fun x _=>Ring.nil _,fun y p _ hu=>?_,fun y p _ hu=>?_,fun y _ _=>⟨rfl,rfl,rfl⟩,fun y _ _=>rfl,fun x d _=>Nat.zero_le _⟩,⟨fun h _=>Ring.nil _,fun h y _=>?_,fun h t s _ e=>(by cases e)⟩⟩
 ·have:(-1:Int)=p:=hu;omega
 ·have:(-1:Int)=p:=hu;omega
 ·constructor
  ·intro hm;cases hm
  ·rintro ⟨h1,_,_,h2⟩;simp only [hz] at h2;omega
theorem U8 (I:yJ A G):yJ (aQ A) G:=by
 have e1:(aQ A).cs=A.cs:=by unfold aQ;split<;>rfl
 have e2:∀y,(aQ A).c y=A.c y:=fun y=>by unfold NS.c;rw [e1]
 have e3:(fun y=>((aQ A).c y).i)=(fun y=>(A.c y).i):=funext (fun y=>by rw [e2]);refine ⟨?_,?_⟩
 ·rw [e1,e3];exact I.ff.mono (fun y p hy hu ho=>⟨(I.ff.home y p hy hu).1,(I.ff.home y p hy hu).2,(fP (e2 p) (e2 y)).2 ho⟩) I.ff.alone
 ·rw [e1,e3];exact I.fr.imp (fun g t s _ y _ hl=>(fP (e2 t) (e2 y)).2 hl)
theorem X8 (I:yJ A G) (ok:A.Ok) {h x:Nat} (k s:Int) (hB:oF A h x=true) :
  yJ (aN A h x k s) (P8 (aN A h x k s) h x G)/\((P8 (aN A h x k s) h x G).R h).length=(G.R h).length+1/\(∀g,g≠h->(P8 (aN A h x k s) h x G).R g=G.R g)/\(P8 (aN A h x k s) h x G).mr=G.mr/\1<=h/\x<A.cs.length/\
   bX (aN A h x k s) (x:Int)=true/\(∀t s',G.R h=t::s'->bX (aN A h x k s) (t:Int)=true)/\(aN A h x k s).cs.length=A.cs.length:=by
 obtain ⟨b1,b2,b3⟩:=(fE _ _ _).1 hB;have b4:=(aT _ _).1 b1;have b5:=(ic _ _).1 b2;have hx:x<A.cs.length:=ω;have h1:1<=h:=ω;have eP:aN A h x k s=jh A x ⟨h,k,s⟩:=by unfold aN;rw [hB];rfl
 have hc:∀y,(aN A h x k s).c y=if y=x then ⟨h,k,s⟩ else A.c y:=fun y=>by rw [eP,kV];simp [hx]
 have hl:(aN A h x k s).cs.length=A.cs.length:=by rw [eP,fO]
 have x0:¬0<(A.c x).i:=fun h'=>by
  have:bX A (x:Int)=true:=(ai _ _).2 ⟨hx,h'⟩;rw [this] at b3;cases b3
 obtain ⟨ax,kx,nx⟩:=I.ff.alone x hx x0;have bO:∀y,y≠x->((aN A h x k s).c y).i=(A.c y).i:=fun y hy=>by rw [hc,if_neg hy]
 have Bl:((aN A h x k s).c x).i=h:=by rw [hc,if_pos rfl]
 have inx:∀y,0<(A.c y).i->y≠x:=fun y hy e=>x0 (e▸hy);have lts:∀a y,a≠x->y≠x->(cZ (aN A h x k s) a y↔cZ A a y):=fun a y ha hy=>fP (by rw [hc,if_neg ha]) (by rw [hc,if_neg hy])
 have F':FF A.cs.length G (fun y=>((aN A h x k s).c y).i) (cZ (aN A h x k s)) (fun _=>0):=I.ff.mono (fun y p hy hu ho=>by
  have hh:=I.ff.home y p hy hu;have hy1:0<(A.c y).i:=hh.2;have hp1:0<(A.c p).i:=by have:(A.c y).i=(A.c p).i:=hh.1;omega
  have e1:=inx y hy1;have e2:=inx p hp1;exact ⟨by simp only [bO y e1,bO p e2];exact hh.1,by simp only [bO y e1];exact hy1,(lts p y e2 e1).2 ho⟩) (fun y hy h0=>by
  by_cases e:y=x
  ·subst e;exact ⟨ax,kx,nx⟩
  ·simp only [bO y e] at h0;exact I.ff.alone y hy h0)
 have mR:∀g z,z∈G.R g->z≠x/\(A.c z).i=g/\1<=g:=fun g z hz=>by
  have:=I.out hz;exact ⟨inx z (by have:=this.2.2.2.1;omega),this.2.2.2.1,this.1⟩
 have mm:∀g z,z≠x->(z∈G.R g↔1<=g/\z<A.cs.length/\G.up z=-1/\((aN A h x k s).c z).i=g):=fun g z hz=>by rw [bO z hz];exact (I.fr.all g).2.1 z
 have H:Aj A.cs.length (fun y=>((aN A h x k s).c y).i) (cZ (aN A h x k s)) h [x] G:=by
  refine ⟨F',⟨fun g _=>(I.fr.all g).1,fun g z hg=>?_,fun g t s' _ hR y hy=>?_⟩,(I.fr.all h).1,fun t s' hR y hy=>?_,fun z hz=>?_,σ,fun z hz=>?_,fun z hz=>?_⟩
  ·by_cases e:z=x
   ·subst e;constructor
    ·intro hm;exact absurd rfl (mR g z hm).1
    ·rintro ⟨_,_,_,h2⟩;simp only [Bl] at h2;exact absurd (by congr 1;omega:some g=some h) hg
   ·exact mm g z e
  ·have e1:=(mR g t (by rw [hR];simp)).1;have e2:=(mR g y (by rw [hR];simp [hy])).1;exact (lts t y e1 e2).2 ((I.fr.all g).2.2 t s' hR y hy)
  ·have e1:=(mR h t (by rw [hR];simp)).1;have e2:=(mR h y (by rw [hR];simp [hy])).1;exact (lts t y e1 e2).2 ((I.fr.all h).2.2 t s' hR y hy)
  ·exact ((mm h z (mR h z hz).1).1 hz).2
  ·simp at hz;subst hz;exact ⟨⟨hx,ax,Bl⟩,nx,fun hm=>(mR h z hm).1 rfl⟩
  ·by_cases e:z=x
   ·exact Or.inr (by simp [e])
   ·exact Or.inl ((mm h z e).2 ⟨h1,hz⟩)
 obtain ⟨r1,r2⟩:=H.step h1 (fun G=>zU _ _ _ _ _) (fun a b c=>cz);obtain ⟨s1,s2,s3,s4⟩:=vL (o9 (aN A h x k s)) h [x] G;refine ⟨⟨by rw [hl];exact r1.ff,by rw [hl];exact r1.done h1⟩,r2,s4,s2,h1,hx,(ai _ _).2 ⟨by rw [hl];exact hx,by rw [Bl];omega⟩,fun t s' hR=>?_,hl⟩;have:=I.out (h:=h) (z:=t) (by rw [hR];simp);exact (ai _ _).2 ⟨by rw [hl];exact this.2.1,by rw [bO t (mR h t (by rw [hR];simp)).1];omega⟩
end
end Go.Proofs.YtklibcncmbofpaaGreat
namespace Go.Proofs.YtklibcncmbofpaaGreat
open Go Go.RowKit
section
variable {w:World} {B:FB} {F:List Nat} {gt ct:Nat} {A:NS} {st:Nat} {G:FG}
theorem I1 {α:Type} (f:Nat->α) (x:Nat) (u v:α):az (az f x u) x v=az f x v:=by
 funext z;unfold az;split<;>rfl
theorem fI.kids (M:fI w B F gt ct A st G) (p:Nat) (l:List Nat) (d v:Int) (hd:d=(l.length:Int)) (hv:v=mX l) :
  fI ((w.setCell ⟨B.bl,p*4+2,none⟩ (.int .i64 d)).setCell ⟨B.bl,p*4+1,none⟩ (.int .i64 v)) B F gt ct A st { G with K:=az G.K p l }:=by
 refine M.Kv (up:=G.up) (mr:=G.mr) ν ?_;unfold oo;simp only [EM,kg,←hv,←hd];exact qx (sS M.pl p d) p v
theorem fI.aaD (M:fI w B F gt ct A st G) (p:Nat) (l:List Nat) (d v u:Int) (hd:d=(l.length:Int)) (hv:v=mX l) :
  fI (((w.setCell ⟨B.bl,p*4+2,none⟩ (.int .i64 d)).setCell ⟨B.bl,p*4+1,none⟩ (.int .i64 u)).setCell ⟨B.bl,p*4+1,none⟩ (.int .i64 v)) B F gt ct A st { G with K:=az G.K p l }:=by
 refine M.Kv (up:=G.up) (mr:=G.mr) ν ?_;unfold oo;simp only [EM,kg,←hv,←hd];have:=qx (qx (sS M.pl p d) p u) p v;rw [I1] at this;exact this
theorem fI.lone (M:fI w B F gt ct A st G) (x:Nat):fI ((w.setCell ⟨B.bl,x*4,none⟩ (.int .i64 (-1))).setCell ⟨B.bl,x*4+3,none⟩ (.bool false)) B F gt ct A st { G with up:=az G.up x (-1),mr:=az G.mr x false }:=by
 refine M.Kv (K:=G.K) ν ?_;exact pX (rT M.pl x (-1)) x false
theorem sj {c:Code} {K:Exit->Act->World->Prop} {a:Act} {W:World} (R:World->Prop) (h:R W) (k:∀W',R W'->Code.wp Tryz.prog c K a W'):Code.wp Tryz.prog c K a W:=k W h
theorem Fv (M:fI w B F gt ct A st G) {q x p t:Nat} {s:List Nat} (hq:q<A.hs.length) (hx:x<A.cs.length) (hp:p<A.cs.length) (ux:G.up x=p) (hR:G.R q=t::s) (ht:t<A.cs.length)
  (hl:(G.K p).length=(zh (G.K p) x).length+1) (hl2:(G.K p).length<=65536) (hn:G.nx x=(zh (G.K p) x).headD x) (hxa:x∉zh (G.K p) x) :
  Calls Tryz.prog 231 #[.pointer (some ⟨B.n0,0,none⟩),.int .i64 (q:Int),.int .i64 (x:Int)] w fun e w'=>e=.returned (.tuple #[])/\fI w' B F gt ct A st (fD q x G)/\aa [B.bn,B.bp,B.bl] w w':=by
 have hc1:=M.cells.ok.c1;have h2:=M.h2;have h1:=M.h1;have CR:(x:Int)<(A.cs.length:Int):=ω;have Ye:(p:Int)<(A.cs.length:Int):=ω;have px0:=M.p0 hx;rw [ux] at px0;have pp1:=M.p1 hp;have pp2:=M.p2 hp;have fp1:=M.pl.free (p*4+1);have fp2:=M.pl.free (p*4+2);have eg:fD q x G={ nx:=dK (dK G.nx x (G.pv x)) t x,pv:=jO (dK G.nx x (G.pv x)) (jO G.nx G.pv x (G.pv x)) t x,up:=az G.up x (-1),mr:=az G.mr x false,K:=az G.K p (zh (G.K p) x),R:=az G.R q (t::x::s) }:=by
  unfold fD;rw [hR,ux];rfl
 rw [eg];have hw1:IntKind.i64.wrap (((G.K p).length:Int)-1)=((zh (G.K p) x).length:Int):=by rw [IntWalk.i64_in _ ω];omega
 obtain ⟨g1,g2,g3,g4,g5,g6,g7⟩:=M.d3;obtain ⟨e1,e2,e3,e4,e5⟩:=M.d2;have hlt:=M.lt;have lbl:=hlt B.bl (by simp [FB.blk]);have hkn:∀W,fI W B F gt ct A st { G with K:=az G.K p (zh (G.K p) x) }->Calls Tryz.prog 236 #[.pointer (some ⟨B.br,0,none⟩),.int .i64 (x:Int)] W fun e w'=>e=.returned (.tuple #[.int .i64 (G.nx x:Int),.bool true])/\w'=W:=fun W hW=>Cy hW.rings hx
 have Df:∀W,fI W B F gt ct A st { G with K:=az G.K p (zh (G.K p) x) }->Calls Tryz.prog 228 #[.pointer (some ⟨B.br,0,none⟩),.int .i64 (x:Int)] W fun e w'=>e=.returned (.bool true)/\yj w' B.br B.bn B.bp A.cs.length (dK G.nx x (G.pv x)) (jO G.nx G.pv x (G.pv x))/\aa [B.bn,B.bp] W w':=fun W hW=>BX hW.rings hx;cases hA:zh (G.K p) x with
 | nil=>
  rw [hA] at hn hw1 hl Df hkn;have hn':G.nx x=x:=hn;rw [hn'] at hkn;obtain ⟨W5,Ui⟩:∃W5,W5=(w.setCell ⟨B.bl,p*4+2,none⟩ (.int .i64 0)).setCell ⟨B.bl,p*4+1,none⟩ (.int .i64 (-1)):=⟨_,rfl⟩;have M5:fI W5 B F gt ct A st { G with K:=az G.K p [] }:=by rw [Ui];exact M.kids p [] 0 (-1) rfl rfl
  have cu:aa [B.bl] w W5:=by rw [Ui];exact ν
  go_enter Tryz.func231,Tryz.ntmps231
  go_wp2
  go_region
  have KP:=χ Df;have KN:=χ hkn;have H5:=χ (ψ M5 (ψ cu Ui));have HM:=χ (ψ M (ψ hlt hR));clear Df hkn M5 cu Ui M hlt hR eg hA hn hn' hl ux hxa;have kn5:=fun W (hW:aa [] W5 W)=>KN.out W (H5.out.1.aA hW);have Y1:=fun W (hW:aa [] W5 W)=>KP.out W (H5.out.1.aA hW);rw [H5.out.2.2] at kn5 Y1
  go_wp2_with (first
   | ((go_at_call 236;(with_reducible refine (kn5 _ β).mono ?_));rintro e w9 ⟨rfl,aM⟩;rw [aM];clear aM w9)
   | ((go_at_call 228;(with_reducible refine (Y1 _ β).mono ?_));rintro e w6 ⟨rfl,Zy,iB⟩)
   | fail)
  have U6:aa [B.bn,B.bp] W5 w6:=by rw [H5.out.2.2];exact aa.trans β iB
  have M6:=((H5.out.1)).dG U6 Zy;have kQ:aa [B.bn,B.bp,B.bl] w w6:=(H5.out.2.1.mono σ).trans ((U6).mono (fun z hz=>by simp at hz;rcases hz with e|e<;>simp [e]));have q2:=M6.h2;have q0:=M6.p0 hx;have q3:=M6.p3 hx;have f0:=M6.pl.free (x*4);have f3:=M6.pl.free (x*4+3);have H6:=χ (ψ M6 kQ);clear M6 kQ Zy iB kn5 Y1
  go_region
  go_wp2;refine sj (fun W=>fI W B F gt ct A st { nx:=dK G.nx x (G.pv x),pv:=jO G.nx G.pv x (G.pv x),up:=az G.up x (-1),mr:=az G.mr x false,K:=az G.K p [],R:=G.R }/\aa [B.bn,B.bp,B.bl] w W) ?_ ?_
  ·have kQ:=H6.out.2;exact ⟨(H6.out.1.lone x).drewN 1,ν⟩
  rintro w7 ⟨M7,kQ⟩;have ks:=fun W (hW:aa [] w7 W)=>lC (M7.rings.aA hW) ht hx;have m:∀x,x≠B.bn->x≠B.bp->x∉[B.bn,B.bp]:=fun x h1 h2=>by simp [h1,h2]
  have r1:∀W,aa [B.bn,B.bp] w7 W->W.cell? ⟨B.n0,1,none⟩=some (.pointer (some ⟨B.br,0,none⟩)):=fun W hW=>hW.kept M7.h1 (m _ e2 e3);have r3:∀W,aa [B.bn,B.bp] w7 W->W.cell? ⟨B.n0,3,none⟩=some (.slice (some ⟨gt,0,none⟩) A.hs.length ct):=fun W hW=>hW.kept M7.h3 (m _ e2 e3);have rt:∀W,aa [B.bn,B.bp] w7 W->W.cell? ⟨gt,q,none⟩=some (.int .i64 (t:Int)):=fun W hW=>by
   have:=hW.kept (M7.top hq) (m _ g6 g7);rw [show mX ((({ nx:=dK G.nx x (G.pv x),pv:=jO G.nx G.pv x (G.pv x),up:=az G.up x (-1),mr:=az G.mr x false,K:=az G.K p [],R:=G.R }:FG)).R q)=t from by show mX (G.R q)=t;rw [HM.out.2.2];rfl] at this;exact this
  have hqI:(q:Int)<(A.hs.length:Int):=ω;have hcap:=M7.cap;have H7:=χ (ψ M7 kQ);clear M7 kQ q2 q0 q3 f0 f3
  go_region_held3 (aa [B.bn,B.bp] w7) (exact ν)
   (first
    | ((go_at_call 233;(with_reducible refine (ks _ β).mono ?_));rintro e w8 ⟨rfl,hR8,Kk⟩;(have yw:aa [B.bn,B.bp] w7 w8:=aa.trans ν Kk)))
  go_wp2;go_end0;refine ⟨rfl,((H7.out.1.dG yw hR8).Su q (t::x::s) (by show _=mX (G.R q);rw [HM.out.2.2];rfl)).drewN 0,H7.out.2.trans (yw.mono (fun z hz=>by simp at hz;rcases hz with e|e<;>simp [e]))⟩
 | cons y r=>
  rw [hA] at hn hw1 hl Df hkn;have hn':G.nx x=y:=hn;rw [hA] at hxa;have hyx:y≠x:=fun e=>hxa (by simp [e]);have hyxI:((y:Int) == (x:Int))=false:=ζ;rw [hn'] at hkn;have hrl:((r.length:Nat):Int)+1=(((y::r).length:Nat):Int):=σ;obtain ⟨W4,VJ⟩:∃W4,W4=(w.setCell ⟨B.bl,p*4+2,none⟩ (.int .i64 (((y::r).length:Nat):Int))).setCell ⟨B.bl,p*4+1,none⟩ (.int .i64 (-1)):=⟨_,rfl⟩;obtain ⟨W5,Ui⟩:∃W5,W5=((w.setCell ⟨B.bl,p*4+2,none⟩ (.int .i64 (((y::r).length:Nat):Int))).setCell ⟨B.bl,p*4+1,none⟩ (.int .i64 (-1))).setCell ⟨B.bl,p*4+1,none⟩ (.int .i64 (y:Int)):=⟨_,rfl⟩
  have M5:fI W5 B F gt ct A st { G with K:=az G.K p (y::r) }:=by rw [Ui];exact M.aaD p (y::r) _ (y:Int) (-1) rfl rfl
  have cu:aa [B.bl] w W5:=by rw [Ui];exact ν
  have iC:aa [B.bl] w W4:=by rw [VJ];exact ν
  have kn4:∀W,aa [] W4 W->Calls Tryz.prog 236 #[.pointer (some ⟨B.br,0,none⟩),.int .i64 (x:Int)] W fun e w'=>e=.returned (.tuple #[.int .i64 (y:Int),.bool true])/\w'=W:=fun W hW=>by
   have:=Cy (M.rings.upd (iC.then hW) (by simp;exact Ne.symm g1) (by simp;exact Ne.symm g2) (by simp;exact Ne.symm g3)) hx;rw [hn'] at this;exact this
  have Y1:∀W,aa [] W5 W->Calls Tryz.prog 228 #[.pointer (some ⟨B.br,0,none⟩),.int .i64 (x:Int)] W fun e w'=>e=.returned (.bool true)/\yj w' B.br B.bn B.bp A.cs.length (dK G.nx x (G.pv x)) (jO G.nx G.pv x (G.pv x))/\aa [B.bn,B.bp] W w':=fun W hW=>Df W (M5.aA hW);rw [VJ] at kn4;rw [Ui] at Y1;have kn5:=kn4;have H5:=χ (ψ M5 (ψ cu Ui));have HM:=χ (ψ M (ψ hlt hR));clear Df hkn M5 cu Ui M hlt hR eg hA hn hn' hl ux hxa VJ iC kn4 hrl;generalize (((y::r).length:Nat):Int)=dl at *
  go_enter Tryz.func231,Tryz.ntmps231
  go_wp2
  go_region
  go_wp2_with (first
   | ((go_at_call 236;(with_reducible refine (kn5 _ β).mono ?_));rintro e w9 ⟨rfl,aM⟩;rw [aM];clear aM w9)
   | ((go_at_call 228;(with_reducible refine (Y1 _ β).mono ?_));rintro e w6 ⟨rfl,Zy,iB⟩)
   | fail)
  have U6:aa [B.bn,B.bp] W5 w6:=by rw [H5.out.2.2];exact aa.trans β iB
  have M6:=((H5.out.1)).dG U6 Zy;have kQ:aa [B.bn,B.bp,B.bl] w w6:=(H5.out.2.1.mono σ).trans ((U6).mono (fun z hz=>by simp at hz;rcases hz with e|e<;>simp [e]));have q2:=M6.h2;have q0:=M6.p0 hx;have q3:=M6.p3 hx;have f0:=M6.pl.free (x*4);have f3:=M6.pl.free (x*4+3);have H6:=χ (ψ M6 kQ);clear M6 kQ Zy iB kn5 Y1
  go_region
  go_wp2;refine sj (fun W=>fI W B F gt ct A st { nx:=dK G.nx x (G.pv x),pv:=jO G.nx G.pv x (G.pv x),up:=az G.up x (-1),mr:=az G.mr x false,K:=az G.K p (y::r),R:=G.R }/\aa [B.bn,B.bp,B.bl] w W) ?_ ?_
  ·have kQ:=H6.out.2;exact ⟨(H6.out.1.lone x).drewN 1,ν⟩
  rintro w7 ⟨M7,kQ⟩;have ks:=fun W (hW:aa [] w7 W)=>lC (M7.rings.aA hW) ht hx;have m:∀x,x≠B.bn->x≠B.bp->x∉[B.bn,B.bp]:=fun x h1 h2=>by simp [h1,h2]
  have r1:∀W,aa [B.bn,B.bp] w7 W->W.cell? ⟨B.n0,1,none⟩=some (.pointer (some ⟨B.br,0,none⟩)):=fun W hW=>hW.kept M7.h1 (m _ e2 e3);have r3:∀W,aa [B.bn,B.bp] w7 W->W.cell? ⟨B.n0,3,none⟩=some (.slice (some ⟨gt,0,none⟩) A.hs.length ct):=fun W hW=>hW.kept M7.h3 (m _ e2 e3);have rt:∀W,aa [B.bn,B.bp] w7 W->W.cell? ⟨gt,q,none⟩=some (.int .i64 (t:Int)):=fun W hW=>by
   have:=hW.kept (M7.top hq) (m _ g6 g7);rw [show mX ((({ nx:=dK G.nx x (G.pv x),pv:=jO G.nx G.pv x (G.pv x),up:=az G.up x (-1),mr:=az G.mr x false,K:=az G.K p (y::r),R:=G.R }:FG)).R q)=t from by show mX (G.R q)=t;rw [HM.out.2.2];rfl] at this;exact this
  have hqI:(q:Int)<(A.hs.length:Int):=ω;have hcap:=M7.cap;have H7:=χ (ψ M7 kQ);clear M7 kQ q2 q0 q3 f0 f3
  go_region_held3 (aa [B.bn,B.bp] w7) (exact ν)
   (first
    | ((go_at_call 233;(with_reducible refine (ks _ β).mono ?_));rintro e w8 ⟨rfl,hR8,Kk⟩;(have yw:aa [B.bn,B.bp] w7 w8:=aa.trans ν Kk)))
  go_wp2;go_end0;refine ⟨rfl,((H7.out.1.dG yw hR8).Su q (t::x::s) (by show _=mX (G.R q);rw [HM.out.2.2];rfl)).drewN 0,H7.out.2.trans (yw.mono (fun z hz=>by simp at hz;rcases hz with e|e<;>simp [e]))⟩
theorem fI.marked (M:fI w B F gt ct A st G) (x:Nat):fI (w.setCell ⟨B.bl,x*4+3,none⟩ (.bool true)) B F gt ct A st { G with mr:=az G.mr x true }:=by
 refine M.Kv (up:=G.up) (K:=G.K) ν ?_;exact pX M.pl x true
theorem Et {bO:Nat->Int} {L Mx:Nat->Nat->Prop} (Z0:∀a,¬L a a) (M:fI w B F gt ct A st G) {q p t:Nat} {s:List Nat} (hq:q<A.hs.length) (H:FF A.cs.length G bO L (fun c=>if c=p then 1 else 0)) (R:FR A.cs.length G bO Mx none) (hR:G.R q=t::s) (hp:p<A.cs.length) (hh:bO p=q) (h1:1<=q)
  (hf:∀y,y<A.cs.length->bO y=q->y≠t->Mx t y) :
  Calls Tryz.prog 232 #[.pointer (some ⟨B.n0,0,none⟩),.int .i64 (q:Int),.int .i64 (p:Int)] w fun e w'=>e=.returned (.tuple #[])/\fI w' B F gt ct A st (rM (marks A.cs.length G+1) q p G)/\aa [B.bn,B.bp,B.bl] w w':=by
 have hc1:=M.cells.ok.c1;obtain ⟨D,hD⟩:∃D,rM (marks A.cs.length G+1) q p G=D:=⟨_,rfl⟩;rw [hD];have H0:=χ (ψ M (ψ H (ψ R (ψ hR (ψ hD hf)))));clear M H R hR hD hf
 go_enter Tryz.func232,Tryz.ntmps232
 go_wp2
 go_loopg [2] (marks A.cs.length G+1) (fun fu s2 wr=>∃ (p':Nat) (s':List Nat) (G':FG),s2=.int .i64 (p':Int)/\FF A.cs.length G' bO L (fun c=>if c=p' then 1 else 0)/\FR A.cs.length G' bO Mx none/\G'.R q=t::s'/\p'<A.cs.length/\bO p'=q/\marks A.cs.length G'<fu/\rM fu q p' G'=D/\fI wr B F gt ct A st G'/\aa [B.bn,B.bp,B.bl] w wr)
 case atStart=>exact ⟨p,s,G,rfl,H0.out.2.1,H0.out.2.2.1,H0.out.2.2.2.1,hp,hh,ω,H0.out.2.2.2.2.1,H0.out.1,aa.refl _ _⟩
 case round=>
  rename Nat=>fu;obtain ⟨p',s',G',rfl,H,R,hR,hp',hh',hm,hcas,hM,hu⟩:=hrel;rename World=>wr;obtain ⟨fv,rfl⟩:∃fv,fu=fv+1:=⟨fu-1,ω⟩;have Ye:(p':Int)<(A.cs.length:Int):=ω;have q2:=hM.h2;have p0:=hM.p0 hp';have p3:=hM.p3 hp';have f3:=hM.pl.free (p' * 4+3);unfold rM at hcas;have HR:=χ (ψ H (ψ R (ψ hR (ψ hM hu))))
  by_cases e:G'.up p'=-1
  ·rw [if_pos e] at hcas;rw [e] at p0;subst hcas;clear H R hR hM hu e H0;go_wp2;go_end0;exact ⟨rfl,HR.out.2.2.2.1,HR.out.2.2.2.2⟩
  ·rw [if_neg e] at hcas;obtain ⟨pp,R7,Yk,_⟩:=(H.FQ p' hp').resolve_left e;have hne:((pp:Int) == -1)=false:=σ;rw [Yk] at p0 hcas;rw [π] at hcas;cases hb:G'.mr p' with
   | false=>
    rw [hb] at p3 hcas;rw [if_pos rfl] at hcas;have HC:=χ hcas;clear H R hR hM hu e hcas hb Yk H0;go_wp2;refine bodyPost_ret (v:=.tuple #[]) (by simp [results,Tryz.results232,go_sem]) rfl ?_;exact ⟨rfl,by rw [←HC.out];exact HR.out.2.2.2.1.marked p',HR.out.2.2.2.2.setCell (Or.inl σ) _⟩
   | true=>
    rw [hb] at p3 hcas;rw [if_neg σ] at hcas;have ZX:pp≠p':=fun e3=>by subst e3;exact Z0 _ (H.ord pp pp hp' Yk)
    have htp:p'≠t:=fun e3=>by
     subst e3;have:=((R.all q).2.1 p').1 (by rw [hR];simp);exact e this.2.2.1
    obtain ⟨o1,o2,o3,o4,o5,o6,⟨a,b,eK,eA⟩,o8⟩:=z8 H R hR hp' Yk ZX hh' (H0.out.2.2.2.2.2 p' hp' hh' htp);have ht:=(((R.all q).2.1 t).1 (by rw [hR];simp)).2.1;have hnd:=(H.ring pp R7).nd;have hka:(G'.K pp).length=(zh (G'.K pp) p').length+1:=by rw [eA,eK];simp;omega
    have hkb:(G'.K pp).length<=65536:=Nat.le_trans (H.OI R7) hc1;have hxa:p'∉zh (G'.K pp) p':=by
     rw [eA];rw [eK,θ,List.nodup_cons] at hnd;intro hm2;rcases τ.1 hm2 with h'|h'
     ·exact hnd.2.1.1 h'
     ·exact hnd.2.2 p' h' p' σ rfl
    have ko:=fun W (hW:aa [] wr W)=>Fv (hM.aA hW) hq hp' R7 Yk hR ht hka hkb o8 hxa;have hmk:=tq (G:=G') (b:=false) hp' rfl (fD q p' G') o4;rw [hb] at hmk;simp only [Bool.false_eq_true,if_false,if_true] at hmk;have ZN:FF A.cs.length (fD q p' G') bO L (fun c=>if c=pp then 1 else 0):=by
     refine ⟨o1.rg,o1.kid,o1.FQ,o1.ring,o1.home,o1.ord,o1.alone,o1.free,fun x d hx=>?_⟩;have X4:(fD q p' G').up p'=-1:=by rw [o3,bV]
     rw [tQ (G:=fD q p' G') (ex:=fun c=>if c=pp then (if c=p' then 1 else 0)+1 else if c=p' then 1 else 0) d (fun c hc=>by
      have hcp:c≠p':=fun e3=>o1.sV hx X4 (e3▸hc)
      rw [if_neg hcp])]
     exact o1.cnt x d hx
    have ZT:bO pp=q:=by have:=(H.home p' pp hp' Yk).1;omega
    have HS:=χ (ψ ZN (ψ o2 (ψ o6 (ψ hcas hmk))));clear H R hR hM hu e hcas hb Yk o1 ZN o2 o3 o4 o5 o6 o8 eK eA hnd hka hkb hxa hmk
    go_wp2_with (first
     | ((go_at_call 231;(with_reducible refine (ko _ β).mono ?_));rintro e w2 ⟨rfl,hM2,hu2⟩)
     | fail)
    go_roundg fv
    case measure=>omega
    case rel=>
     obtain ⟨o1,o2,o6,hcas,hmk⟩:=HS.out;exact ⟨pp,p'::s',fD q p' G',rfl,o1,o2,by rw [o6,bV],R7,ZT,ω,hcas,hM2,HR.out.2.2.2.2.trans hu2⟩
theorem Fs {bO:Nat->Int} {L Mx:Nat->Nat->Prop} (Z0:∀a,¬L a a) (M:fI w B F gt ct A st G) {q x t:Nat} {s:List Nat} (hq:q<A.hs.length) (hx:x<A.cs.length) (H0:FF A.cs.length G bO (fun a y=>y≠x->L a y) (fun _=>0)) (hR:G.R q=t::s) (ht:t<A.cs.length) (h1:1<=q)
  (hp:∀p:Nat,G.up x=p->p≠x/\bO p=q/\FF A.cs.length (fD q x G) bO L (fun c=>if c=p then 0+1 else 0)/\FR A.cs.length (fD q x G) bO Mx none/\(fD q x G).R q=t::x::s)
  (hf:∀y,y<A.cs.length->bO y=q->y≠t->Mx t y) :
  Calls Tryz.prog 225 #[.pointer (some ⟨B.n0,0,none⟩),.int .i64 (q:Int),.int .i64 (x:Int)] w fun e w'=>e=.returned (.tuple #[])/\fI w' B F gt ct A st (kT A.cs.length q x G)/\aa [B.bn,B.bp,B.bl] w w':=by
 have hc1:=M.cells.ok.c1;have q2:=M.h2;have p0:=M.p0 hx;have CR:(x:Int)<(A.cs.length:Int):=ω
 by_cases e:G.up x=-1
 ·have eg:kT A.cs.length q x G=G:=by unfold kT;rw [if_pos e]
  rw [eg];rw [e] at p0;have HM:=χ M;clear M H0 hR hp hf e eg
  go_enter Tryz.func225,Tryz.ntmps225
  go_wp2;go_end0;exact ⟨rfl,HM.out,aa.refl _ _⟩
 ·obtain ⟨p,hpn,ux,hxk⟩:=(H0.FQ x hx).resolve_left e;obtain ⟨hpx,ZT,o1,o2,o3⟩:=hp p ux;have eg:kT A.cs.length q x G=rM (marks A.cs.length (fD q x G)+1) q p (fD q x G):=by unfold kT;rw [ux,if_neg ω,π]
  rw [eg];rw [ux] at p0;have hne:((p:Int) == -1)=false:=σ;have Mh:=H0.ring p hpn;obtain ⟨a,b,eK,eA,xa,xb⟩:=IY hxk Mh.nd;have hka:(G.K p).length=(zh (G.K p) x).length+1:=by rw [eA,eK];simp;omega
  have hkb:(G.K p).length<=65536:=Nat.le_trans (H0.OI hpn) hc1;have hxa:x∉zh (G.K p) x:=by rw [eA];simp;exact ⟨xb,xa⟩
  have hnx:G.nx x=(zh (G.K p) x).headD x:=by
   rw [eK] at Mh;have:=Ring.WK (a:=a) (b:=x::b) Mh;rw [eA];exact (ji.1 this).2.1
  have ko:=fun W (hW:aa [] w W)=>Fv (M.aA hW) hq hx hpn ux hR ht hka hkb hnx hxa;have ZN:FF A.cs.length (fD q x G) bO L (fun c=>if c=p then 1 else 0):=by simpa using o1
  have kc:=fun W (hM:fI W B F gt ct A st (fD q x G))=>Et Z0 hM hq ZN o2 o3 hpn ZT h1 hf;have HM:=χ (ψ M kc);clear M H0 hR hp hf e eg kc o1 ZN o2 o3 eK eA hka hkb hxa hnx ux Mh
  go_enter Tryz.func225,Tryz.ntmps225
  go_wp2_with (first
   | ((go_at_call 231;(with_reducible refine (ko _ β).mono ?_));rintro e w2 ⟨rfl,hM2,hu2⟩;(have ZH:=HM.out.2 _ hM2);(have HU:=χ hu2);clear hM2 hu2 ko)
   | ((go_at_call 232;(with_reducible refine (ZH).mono ?_));rintro e w3 ⟨rfl,jV,hu3⟩)
   | fail)
  go_end0;exact ⟨rfl,jV,HU.out.trans hu3⟩
end
end Go.Proofs.YtklibcncmbofpaaGreat
