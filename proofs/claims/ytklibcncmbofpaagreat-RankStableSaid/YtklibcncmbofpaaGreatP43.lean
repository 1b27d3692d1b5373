/-
  Lemmas for RankSorts: FbT, FbP, FbQ, FbR. Conditions: those of each lemma.
-/
import Derived.Test.YtklibcncmbofpaaGreatP42
set_option maxHeartbeats 8000000
set_option maxRecDepth 10000
set_option linter.unusedVariables false
set_option linter.unusedSimpArgs false
namespace Go.Proofs.YtklibcncmbofpaaGreat
def iN (T:List Int) (d:Nat):List Int:=T++List.replicate (d+1-T.length) (-1)
def lT (T:List Int):Nat:=(T.filter (fun y=>decide (y≠-1))).length
structure TD where
 T:List Int
 G:FG
 q:Nat
def Eu (lt:Nat→Nat→Bool):Nat→List Int→Nat→FG→Nat→TD
 | 0,T,x,G,q=>⟨T,G,q⟩
 | f+1,T,x,G,q=>
  if (iN T (G.K x).length).getD (G.K x).length (-1)=-1 then ⟨(iN T (G.K x).length).set (G.K x).length x,G,q⟩
  else if lt ((iN T (G.K x).length).getD (G.K x).length (-1)).toNat x then Eu lt f ((iN T (G.K x).length).set (G.K x).length (-1)) ((iN T (G.K x).length).getD (G.K x).length (-1)).toNat (bX G x ((iN T (G.K x).length).getD (G.K x).length (-1)).toNat) (q+1)
  else Eu lt f ((iN T (G.K x).length).set (G.K x).length (-1)) x (bX G ((iN T (G.K x).length).getD (G.K x).length (-1)).toNat x) (q+1)
def tid (lt:Nat→Nat→Bool):List Nat→TD→TD
 | [],D=>D
 | x::rs,D=>tid lt rs (Eu lt (lT D.T+1) D.T x D.G D.q)
theorem AJ (T:List Int) (d:Nat):(iN T d).length=max T.length (d+1):=by unfold iN;simp;omega
theorem Mv (a b:List Int):lT (a++b)=lT a+lT b:=by unfold lT;simp
theorem MS (k:Nat):lT (List.replicate k (-1))=0:=by
 unfold lT;rw [List.length_eq_zero_iff,List.filter_eq_nil_iff];intro a ha;have:=List.eq_of_mem_replicate ha;simp [this]
theorem Nl (T:List Int) (d:Nat):lT (iN T d)=lT T:=by unfold iN;rw [Mv,MS];omega
theorem AB:∀ (T:List Int) (d:Nat) (v u:Int),T[d]?=some u→lT (T.set d v)+(if u=-1 then 0 else 1)=lT T+(if v=-1 then 0 else 1)
 | [],d,v,u,h=>by simp at h
 | a::t,0,v,u,h=>by
  have e:a=u:=by simpa using h
  subst e;have c:∀z:Int,lT (z::t)=(if z=-1 then 0 else 1)+lT t:=fun z=>by
   unfold lT
   by_cases hz:z=-1
   ·rw [List.filter_cons_of_neg (by simpa using hz),if_pos hz];omega
   ·rw [List.filter_cons_of_pos (by simpa using hz),if_neg hz];simp;omega
  show lT (v::t)+_=_
  rw [c,c];omega
 | a::t,d+1,v,u,h=>by
  have ih:=AB t d v u (by simpa using h)
  have c:∀l:List Int,lT (a::l)=(if a=-1 then 0 else 1)+lT l:=fun l=>by
   unfold lT
   by_cases hz:a=-1
   ·rw [List.filter_cons_of_neg (by simpa using hz),if_pos hz];omega
   ·rw [List.filter_cons_of_pos (by simpa using hz),if_neg hz];simp;omega
  show lT (a::t.set d v)+_=_
  rw [c,c];omega
def xN (n:Nat) (G:FG) (hom:Nat→Int) (h:Nat) (z:Nat):Prop:=z<n∧G.up z=-1∧hom z=h
structure TT (n:Nat) (hom:Nat→Int) (L:Nat→Nat→Prop) (h:Nat) (T:List Int) (xs:List Nat) (G:FG):Prop where
 ff:FF n G hom L (fun _=>0)
 fr:FR n G hom L (some h)
 zero:G.R h=[]
 one:∀y,xN n G hom h y→G.nx y=y
 tab:∀ (d:Nat) (y:Int),T[d]?=some y→y=-1∨∃z:Nat,y=z∧xN n G hom h z∧(G.K z).length=d∧z∉xs
 nd:xs.Nodup
 xr:∀z,z∈xs→xN n G hom h z
 all:∀z,xN n G hom h z→z∈xs∨(z:Int)∈T
section
variable {n:Nat} {hom:Nat→Int} {L:Nat→Nat→Prop} {h:Nat} {T:List Int} {xs:List Nat} {G:FG}
theorem TT.pad (H:TT n hom L h T xs G) (d:Nat):TT n hom L h (iN T d) xs G:=by
 refine ⟨H.ff,H.fr,H.zero,H.one,fun e y hy=>?_,H.nd,H.xr,fun z hz=>(H.all z hz).imp id (fun hm=>by unfold iN;simp [hm])⟩
 unfold iN at hy
 by_cases he:e<T.length
 ·rw [List.getElem?_append_left he] at hy;exact H.tab e y hy
 ·rw [List.getElem?_append_right ω] at hy;exact Or.inl (List.eq_of_mem_replicate (List.mem_of_getElem? hy))
theorem oP (T:List Int) (d:Nat) (v z:Int):z∈T.set d v↔(z=v∧d<T.length)∨∃e,e≠d∧T[e]?=some z:=by
 rw [List.mem_iff_getElem?];constructor
 ·rintro ⟨e,he⟩;rw [List.getElem?_set] at he
  by_cases hd:d=e
  ·rw [if_pos hd] at he
   by_cases hl:d<T.length
   ·rw [if_pos hl] at he;injection he with he;exact Or.inl ⟨he.symm,ω⟩
   ·rw [if_neg hl] at he;cases he
  ·rw [if_neg hd] at he;exact Or.inr ⟨e,fun h'=>hd h'.symm,he⟩
 ·rintro (⟨rfl,hl⟩|⟨e,hne,he⟩)
  ·exact ⟨d,by rw [List.getElem?_set,if_pos rfl,if_pos hl]⟩
  ·exact ⟨e,by rw [List.getElem?_set,if_neg (Ne.symm hne)];exact he⟩
theorem TT.place {x:Nat} {rs:List Nat} (H:TT n hom L h T (x::rs) G) {d:Nat} (hd:(G.K x).length=d) (hT:T[d]?=some (-1)):TT n hom L h (T.set d x) rs G:=by
 have hnd:=List.nodup_cons.1 H.nd;have hdl:d<T.length:=(List.getElem?_eq_some_iff.1 hT).1;refine ⟨H.ff,H.fr,H.zero,H.one,fun e y hy=>?_,hnd.2,fun z hz=>H.xr z (by simp [hz]),fun z hz=>?_⟩
 ·rw [List.getElem?_set] at hy
  by_cases he:d=e
  ·rw [if_pos he,if_pos ω] at hy
   injection hy with hy
   exact Or.inr ⟨x,hy.symm,H.xr x σ,ω,hnd.1⟩
  ·rw [if_neg he] at hy;rcases H.tab e y hy with h1|⟨z,h1,h2,h3,h4⟩
   ·exact Or.inl h1
   ·exact Or.inr ⟨z,h1,h2,h3,fun hm=>h4 (by simp [hm])⟩
 ·rcases H.all z hz with h1|h1
  ·rcases List.mem_cons.1 h1 with rfl|h1
   ·exact Or.inr ((oP _ _ _ _).2 (Or.inl ⟨rfl,hdl⟩))
   ·exact Or.inl h1
  ·obtain ⟨e,he⟩:=List.mem_iff_getElem?.1 h1;refine Or.inr ((oP _ _ _ _).2 (Or.inr ⟨e,fun e2=>?_,he⟩))
   subst e2;rw [hT] at he
   injection he with he
   omega
theorem TT.link {x z hi lo:Nat} {rs:List Nat} (H:TT n hom L h T (x::rs) G) {d:Nat} (hd:(G.K x).length=d) (hT:T[d]?=some (z:Int)) (hl:(hi=x∧lo=z)∨(hi=z∧lo=x)) (hL:L hi lo) (h1:1≤h) :
  TT n hom L h (T.set d (-1)) (hi::rs) (bX G lo hi):=by
 have hnd:=List.nodup_cons.1 H.nd;have hxr:=H.xr x σ;obtain ⟨z',e,hzr,hzd,hzx⟩:∃z':Nat,(z:Int)=z'∧xN n G hom h z'∧(G.K z').length=d∧z'∉x::rs:=by
  rcases H.tab d z hT with h2|h2
  ·omega
  ·exact h2
 obtain rfl:z=z':=ω;have hzne:z≠x:=fun e=>hzx (by simp [e])
 have hzrs:z∉rs:=fun hm=>hzx (by simp [hm])
 have hir:xN n G hom h hi:=by rcases hl with ⟨e,_⟩|⟨e,_⟩<;>subst e<;>assumption
 have lor:xN n G hom h lo:=by rcases hl with ⟨_,e⟩|⟨_,e⟩<;>subst e<;>assumption
 have hid:(G.K hi).length=d:=by rcases hl with ⟨e,_⟩|⟨e,_⟩<;>subst e<;>assumption
 have lod:(G.K lo).length=d:=by rcases hl with ⟨_,e⟩|⟨_,e⟩<;>subst e<;>assumption
 have hne:hi≠lo:=by rcases hl with ⟨e1,e2⟩|⟨e1,e2⟩<;>subst e1 e2<;>omega
 have hirs:hi∉rs:=by rcases hl with ⟨e,_⟩|⟨e,_⟩<;>subst e;exact hnd.1;exact hzrs
 have lors:lo∉rs:=by rcases hl with ⟨_,e⟩|⟨_,e⟩<;>subst e;exact hzrs;exact hnd.1
 have hs:=H.one lo lor;have hh:(0:Int)<hom hi:=by rw [hir.2.2];omega
 obtain ⟨hF,hnx,hrl⟩:=H.ff.under hir.1 lor.1 hir.2.1 lor.2.1 hne (by rw [lor.2.2,hir.2.2]) hh hL hs ω rfl
 have upn:∀w,w≠lo→(bX G lo hi).up w=G.up w:=fun w hw=>by rw [jH,aP _ _ hw]
 have upl:(bX G lo hi).up lo=hi:=by rw [jH,bu]
 have rt:∀g w,xN n (bX G lo hi) hom g w↔xN n G hom g w∧w≠lo:=fun g w=>by
  unfold xN
  by_cases e:w=lo
  ·subst e;rw [upl];constructor
   ·rintro ⟨_,h2,_⟩;omega
   ·rintro ⟨_,h2⟩;exact absurd rfl h2
  ·rw [upn w e];simp [e]
 have kn:∀w,w≠hi→(bX G lo hi).K w=G.K w:=fun w hw=>by rw [nZ,aP _ _ hw]
 have Np:∀g,some g≠some h→∀w,w∈G.R g→w≠lo∧w∉G.K hi:=fun g hg w hw=>by
  have hm:=(H.fr.mem g w hg).1 hw;refine ⟨fun e=>hg ?_,fun hk=>?_⟩
  ·subst e;have:=lor.2.2;have:=hm.2.2.2;congr 1;omega
  ·have:=(H.ff.kid hi w hir.1 hk).2;omega
 refine ⟨hF,⟨fun g hg=>?_,fun g w hg=>?_,fun g t s hg hR=>?_⟩,by rw [qK];exact H.zero,fun w hw=>?_,fun e y hy=>?_,List.nodup_cons.2 ⟨hirs,hnd.2⟩,fun w hw=>?_,fun w hw=>?_⟩
 ·rw [qK];exact hrl _ (H.fr.ring g hg) (fun hm=>(Np g hg lo hm).1 rfl) (fun w hw=>(Np g hg w hw).2)
 ·rw [qK,H.fr.mem g w hg];constructor
  ·rintro ⟨a1,a2,a3,a4⟩;have hw:w≠lo:=fun e=>hg (by subst e;have:=lor.2.2;congr 1;omega)
   exact ⟨a1,a2,by rw [upn w hw];exact a3,a4⟩
  ·rintro ⟨a1,a2,a3,a4⟩;have hw:w≠lo:=fun e=>by subst e;rw [upl] at a3;omega
   exact ⟨a1,a2,by rw [upn w hw] at a3;exact a3,a4⟩
 ·rw [qK] at hR;exact H.fr.top g t s hg hR
 ·obtain ⟨hw1,hwl⟩:=(rt h w).1 hw;rw [hnx w hw1.1 hwl hw1.2.1];exact H.one w hw1
 ·rw [List.getElem?_set] at hy
  by_cases he:d=e
  ·rw [if_pos he] at hy
   by_cases hl2:d<T.length
   ·rw [if_pos hl2] at hy;injection hy with hy;exact Or.inl hy.symm
   ·rw [if_neg hl2] at hy;cases hy
  ·rw [if_neg he] at hy;rcases H.tab e y hy with a1|⟨w,a1,a2,a3,a4⟩
   ·exact Or.inl a1
   ·have w1:w≠x:=fun e2=>a4 (by simp [e2])
    have w2:w≠z:=fun e2=>by subst e2;omega
    have whi:w≠hi:=by rcases hl with ⟨e2,_⟩|⟨e2,_⟩<;>subst e2<;>assumption
    have wlo:w≠lo:=by rcases hl with ⟨_,e2⟩|⟨_,e2⟩<;>subst e2<;>assumption
    refine Or.inr ⟨w,a1,(rt h w).2 ⟨a2,wlo⟩,by rw [kn w whi];exact a3,fun hm=>?_⟩
    rcases List.mem_cons.1 hm with e2|hm
    ·exact whi e2
    ·exact a4 (by simp [hm])
 ·rcases List.mem_cons.1 hw with rfl|hw
  ·exact (rt h w).2 ⟨hir,hne⟩
  ·exact (rt h w).2 ⟨H.xr w (by simp [hw]),fun e=>lors (e▸hw)⟩
 ·obtain ⟨hw,hwl⟩:=(rt h w).1 hw;have fin:w=x∨w=z→w∈hi::rs:=fun hc=>by
   rcases hl with ⟨e1,e2⟩|⟨e1,e2⟩
   ·rcases hc with hc|hc
    ·simp [e1,hc]
    ·exact absurd (hc.trans e2.symm) hwl
   ·rcases hc with hc|hc
    ·exact absurd (hc.trans e2.symm) hwl
    ·simp [e1,hc]
  rcases H.all w hw with a|a
  ·rcases List.mem_cons.1 a with a|a
   ·exact Or.inl (fin (Or.inl a))
   ·exact Or.inl (by simp [a])
  ·obtain ⟨e,he⟩:=List.mem_iff_getElem?.1 a
   by_cases hed:e=d
   ·subst hed;rw [hT] at he
    injection he with he
    exact Or.inl (fin (Or.inr ω))
   ·exact Or.inr ((oP _ _ _ _).2 (Or.inr ⟨e,hed,he⟩))
theorem getD_some {T:List Int} {d:Nat} (hd:d<T.length):T[d]?=some (T.getD d (-1)):=by
 rw [φ,List.getElem?_eq_getElem hd];rfl
def DF (n:Nat) (G:FG) (hom:Nat→Int) (h:Nat) (L:Nat→Nat→Prop) (lt:Nat→Nat→Bool):Prop:=∀a b,a<n→b<n→hom a=h→hom b=h→a≠b→(lt a b=true→L a b)∧(lt a b=false→L b a)
theorem TT.step {lt:Nat→Nat→Bool} {x:Nat} {rs:List Nat} (H:TT n hom L h T (x::rs) G) (hl:DF n G hom h L lt) (h1:1≤h) :
  (iN T (G.K x).length)[(G.K x).length]?=some ((iN T (G.K x).length).getD (G.K x).length (-1))∧
  ((iN T (G.K x).length).getD (G.K x).length (-1)=-1→TT n hom L h ((iN T (G.K x).length).set (G.K x).length x) rs G∧lT ((iN T (G.K x).length).set (G.K x).length x)=lT T+1)∧
  ((iN T (G.K x).length).getD (G.K x).length (-1)≠-1→∃z:Nat,(iN T (G.K x).length).getD (G.K x).length (-1)=z∧z<n∧z≠x∧hom z=h∧lT ((iN T (G.K x).length).set (G.K x).length (-1))+1=lT T∧
   (lt z x=true→TT n hom L h ((iN T (G.K x).length).set (G.K x).length (-1)) (z::rs) (bX G x z))∧(lt z x=false→TT n hom L h ((iN T (G.K x).length).set (G.K x).length (-1)) (x::rs) (bX G z x))):=by
 have hp:=H.pad (G.K x).length;have ho:=Nl T (G.K x).length;have hlen:=AJ T (G.K x).length;generalize iN T (G.K x).length=P at *
 have hg:P[(G.K x).length]?=some (P.getD (G.K x).length (-1)):=getD_some ω;refine ⟨hg,fun e=>?_,fun e=>?_⟩
 ·rw [e] at hg;refine ⟨hp.place rfl hg,?_⟩;have:=AB P (G.K x).length x (-1) hg;rw [if_pos rfl,if_neg ω] at this;omega
 ·rcases hp.tab _ _ hg with e1|⟨z,e1,e2,e3,e4⟩
  ·exact absurd e1 e
  ·rw [e1] at hg;have hzx:z≠x:=fun e=>e4 (by simp [e])
   have hxr:=hp.xr x σ;have hk:=hl z x e2.1 hxr.1 e2.2.2 hxr.2.2 hzx;have:=AB P (G.K x).length (-1) z hg;rw [if_pos rfl,if_neg ω] at this;exact ⟨z,e1,e2.1,hzx,e2.2.2,ω,fun ht=>hp.link rfl hg (Or.inr ⟨rfl,rfl⟩) (hk.1 ht) h1,fun ht=>hp.link rfl hg (Or.inl ⟨rfl,rfl⟩) (hk.2 ht) h1⟩
theorem Dw {lt:Nat→Nat→Bool} {rs:List Nat} (h1:1≤h) (hl:∀G,DF n G hom h L lt):∀ (f:Nat) (T:List Int) (x:Nat) (G:FG) (q:Nat),TT n hom L h T (x::rs) G→lT T<f→
  TT n hom L h (Eu lt f T x G q).T rs (Eu lt f T x G q).G∧lT (Eu lt f T x G q).T+(Eu lt f T x G q).q=lT T+1+q∧(Eu lt f T x G q).G.R=G.R∧(Eu lt f T x G q).T.length≤max T.length (n+1)
 | 0,T,x,G,q,H,hf=>ω
 | f+1,T,x,G,q,H,hf=>by
  obtain ⟨s0,s1,s2⟩:=H.step (hl G) h1;have hkn:=H.ff.IE (H.xr x σ).1;have hpl:=AJ T (G.K x).length;unfold Eu
  by_cases e:(iN T (G.K x).length).getD (G.K x).length (-1)=-1
  ·rw [if_pos e];obtain ⟨a,b⟩:=s1 e;exact ⟨a,by simp only;omega,rfl,by simp only [List.length_set];omega⟩
  ·rw [if_neg e];obtain ⟨z,e1,_,_,_,e3,e4,e5⟩:=s2 e;rw [e1,π];cases ht:lt z x with
   | true=>
    rw [if_pos rfl];obtain ⟨r1,r2,r3,r4⟩:=Dw h1 hl f _ z _ (q+1) (e4 ht) ω;exact ⟨r1,ω,r3.trans (qK _ _ _),by rw [List.length_set] at r4;omega⟩
   | false=>
    rw [if_neg σ];obtain ⟨r1,r2,r3,r4⟩:=Dw h1 hl f _ x _ (q+1) (e5 ht) ω;exact ⟨r1,ω,r3.trans (qK _ _ _),by rw [List.length_set] at r4;omega⟩
theorem KW {lt:Nat→Nat→Bool} (h1:1≤h) (hl:∀G,DF n G hom h L lt):∀ (rs:List Nat) (D:TD),TT n hom L h D.T rs D.G→D.T.length≤n+1→
  TT n hom L h (tid lt rs D).T [] (tid lt rs D).G∧lT (tid lt rs D).T+(tid lt rs D).q=lT D.T+rs.length+D.q∧(tid lt rs D).G.R=D.G.R∧(tid lt rs D).T.length≤n+1
 | [],D,H,hlen=>⟨H,by simp [tid],rfl,hlen⟩
 | x::rs,D,H,hlen=>by
  obtain ⟨r1,r2,r3,r4⟩:=Dw h1 hl (lT D.T+1) D.T x D.G D.q H ω;obtain ⟨t1,t2,t3,t4⟩:=KW h1 hl rs _ r1 ω;have e:tid lt (x::rs) D=tid lt rs (Eu lt (lT D.T+1) D.T x D.G D.q):=rfl;rw [e];exact ⟨t1,by rw [t2,List.length_cons];omega,t3.trans r3,t4⟩
end
section
variable {n:Nat} {G:FG} {hom:Nat→Int} {L:Nat→Nat→Prop} {ex:Nat→Nat}
theorem FF.oK (H:FF n G hom L ex) {a x:Nat} (hx:x<n) (ua:G.up a=-1):a∉G.K x:=fun hm=>by
 have:=(H.kid x a hx hm).2;omega
theorem FF.H9 (H:FF n G hom L ex) {a b:Nat} (ha:a<n) (hb:b<n) (ua:G.up a=-1) (ub:G.up b=-1) (h0a:0<hom a) (h0b:0<hom b):FF n (H9 G a b) hom L ex:=
 ⟨H.rg.swap ha hb,H.kid,H.BH,fun x hx=>(H.ring x hx).lF (H.oK hx ua) (H.oK hx ub),H.home,H.ord,fun y hy h0=>by
  obtain ⟨h1,h2,h3⟩:=H.alone y hy h0
  exact ⟨h1,h2,by show bO G.nx a b y=y;rw [gG (fun e=>h0 (by rw [e];exact h0a)) (fun e=>h0 (by rw [e];exact h0b))];exact h3⟩,H.free,H.cnt⟩
theorem FF.bJ (H:FF n G hom L ex) (R:Nat→List Nat):FF n { G with R:=R } hom L ex:=⟨H.rg,H.kid,H.BH,H.ring,H.home,H.ord,H.alone,H.free,H.cnt⟩
theorem FF.mono {L':Nat→Nat→Prop} {hom':Nat→Int} (H:FF n G hom L ex) (hL:∀y p:Nat,y<n→G.up y=p→L p y→hom' y=hom' p∧0<hom' y∧L' p y) (ha:∀y,y<n→¬0<hom' y→G.up y=-1∧G.K y=[]∧G.nx y=y):FF n G hom' L' ex:=
 ⟨H.rg,H.kid,H.BH,H.ring,fun y p hy hu=>⟨(hL y p hy hu (H.ord y p hy hu)).1,(hL y p hy hu (H.ord y p hy hu)).2.1⟩,fun y p hy hu=>(hL y p hy hu (H.ord y p hy hu)).2.2,ha,H.free,H.cnt⟩
def kl (l:List Nat):List Nat:=match l with|[]=>[]|k::t=>t++[k]
theorem Fq (l:List Nat):(kl l).Perm l:=by
 cases l with
 | nil=>exact List.Perm.refl _
 | cons k t=>exact List.perm_append_comm (l₁:=t) (l₂:=[k])
theorem OV {l:List Nat} {z:Nat}:z∈kl l↔z∈l:=(Fq l).mem_iff
theorem Ol (l:List Nat):(kl l).length=l.length:=(Fq l).length_eq
theorem Nc (G:FG) (x:Nat):(bR G x).R=G.R:=by unfold bR;cases G.K x<;>rfl
theorem Ak (G:FG) (x:Nat):(bR G x).K=ai G.K x []:=by
 unfold bR;cases hK:G.K x with
 | nil=>funext z;unfold ai;by_cases e:z=x<;>simp [e,hK]
 | cons k t=>rfl
theorem Cs (G:FG) {x:Nat} (ux:G.up x=-1) (z:Nat):(bR G x).up z=if z∈G.K x then -1 else G.up z:=by
 unfold bR;cases hK:G.K x with
 | nil=>simp
 | cons k t=>
  show ai (fun z=>if z∈k::t then (-1:Int) else G.up z) x (-1) z=_
  unfold ai
  by_cases e:z=x
  ·rw [if_pos e];split;rfl;rw [e,ux]
  ·rw [if_neg e]
theorem Jv (G:FG) {x:Nat} (mx:G.mr x=false) (z:Nat):(bR G x).mr z=if z∈G.K x then false else G.mr z:=by
 unfold bR;cases hK:G.K x with
 | nil=>simp
 | cons k t=>
  show ai (fun z=>if z∈k::t then false else G.mr z) x false z=_
  unfold ai
  by_cases e:z=x
  ·rw [if_pos e];split;rfl;rw [e,mx]
  ·rw [if_neg e]
theorem wD (G:FG) (x:Nat):(bR G x).nx=match G.K x with|[]=>G.nx|k::_=>bO G.nx x k:=by unfold bR;cases G.K x<;>rfl
theorem KS (G:FG) (x:Nat):(bR G x).pv=match G.K x with|[]=>G.pv|k::_=>gQ G.nx G.pv x k:=by unfold bR;cases G.K x<;>rfl
theorem FF.raise (H:FF n G hom L ex) {x:Nat} (hx:x<n) (ux:G.up x=-1) (h0:0<hom x) :
  FF n (bR G x) hom L ex∧(∀l,Ring G.nx l→x∉l→(∀z,z∈l→z∉G.K x)→Ring (bR G x).nx l)∧
   (∀a b,Ring G.nx (a++x::b)→(∀z,z∈a++x::b→z∉G.K x)→Ring (bR G x).nx (a++x::(kl (G.K x)++b))):=by
 have mx:=H.free x hx ux;have up:=Cs G ux;have mr:=Jv G mx;have far:∀z,z≠x→z∉G.K x→(bR G x).nx z=G.nx z:=fun z h1 h2=>by
  rw [wD];cases hK:G.K x with
  | nil=>rfl
  | cons k t=>exact gG h1 (fun e=>h2 (by rw [hK,e];simp))
 have rl:∀l,Ring G.nx l→x∉l→(∀z,z∈l→z∉G.K x)→Ring (bR G x).nx l:=fun l hl h1 h2=>hl.far (fun z hz=>far z (fun e=>h1 (e▸hz)) (h2 z hz))
 have oth:∀a,a<n→a≠x→∀z,z∈G.K a→z≠x∧z∉G.K x:=fun a ha hne z hz=>by
  have:=(H.kid a z ha hz).2;exact ⟨fun e=>by subst e;omega,fun hm=>by have:=(H.kid x z hx hm).2;omega⟩
 have kn:∀a,a≠x→(bR G x).K a=G.K a:=fun a ha=>by rw [Ak,aP _ _ ha]
 have kx:(bR G x).K x=[]:=by rw [Ak,bu]
 refine ⟨⟨?_,fun a y ha hy=>?_,fun y hy=>?_,fun a ha=>?_,fun y p hy hu=>?_,fun y p hy hu=>?_,fun y hy h1=>?_,fun y hy hu=>?_,fun a d ha=>?_⟩,rl,fun a b hr hd=>?_⟩
 ·rw [wD,KS];cases hK:G.K x with
  | nil=>exact H.rg
  | cons k t=>exact H.rg.swap hx (H.kid x k hx (by rw [hK];simp)).1
 ·by_cases e:a=x
  ·subst e;rw [kx] at hy;cases hy
  ·rw [kn a e] at hy;have:=oth a ha e y hy;exact ⟨(H.kid a y ha hy).1,by rw [up,if_neg this.2];exact (H.kid a y ha hy).2⟩
 ·rw [up]
  by_cases e:y∈G.K x
  ·rw [if_pos e];exact Or.inl rfl
  ·rw [if_neg e];rcases H.BH y hy with h1|⟨p,hp,h1,h2⟩
   ·exact Or.inl h1
   ·have hpx:p≠x:=fun e2=>e (e2▸h2)
    exact Or.inr ⟨p,hp,h1,by rw [kn p hpx];exact h2⟩
 ·by_cases e:a=x
  ·subst e;rw [kx];exact Ring.nil _
  ·rw [kn a e];exact rl _ (H.ring a ha) (fun hm=>(oth a ha e x hm).1 rfl) (fun z hz=>(oth a ha e z hz).2)
 ·rw [up] at hu
  split at hu
  ·omega
  ·exact H.home y p hy hu
 ·rw [up] at hu
  split at hu
  ·omega
  ·exact H.ord y p hy hu
 ·obtain ⟨a1,a2,a3⟩:=H.alone y hy h1;have hyx:y≠x:=fun e=>h1 (by rw [e];exact h0)
  have hyk:y∉G.K x:=H.oK hx a1;exact ⟨by rw [up,if_neg hyk];exact a1,by rw [kn y hyx];exact a2,by rw [far y hyx hyk];exact a3⟩
 ·rw [up] at hu;rw [mr]
  split
  ·rfl
  ·rename_i hk
   rw [if_neg hk] at hu;exact H.free y hy hu
 ·by_cases e:a=x
  ·subst e;rw [kx];exact Nat.zero_le _
  ·rw [kn a e,qC (G:=G) (ex:=ex) d (fun c hc=>by
    have:=oth a ha e c hc
    rw [kn c this.1,mr,if_neg this.2])]
   exact H.cnt a d ha
 ·have hk:=H.ring x hx;rw [wD];cases hK:G.K x with
  | nil=>simpa [kl] using hr
  | cons k t=>
   rw [hK] at hk hd;have h1:Ring G.nx (x::(b++a)):=Ring.NH (a:=a) (b:=x::b) hr;have h2:=Ring.join h1 hk (fun z hz=>hd z (by simp only [List.mem_cons,List.mem_append] at hz ⊢;rcases hz with h|h|h<;>simp [h]))
   have h3:Ring (bO G.nx x k) ((x::(t++k::b))++a):=by simpa using h2
   have h4:=Ring.NH h3;simpa [kl] using h4
def qP (l:List Nat) (G:FG):FG:=l.foldl prt G
theorem tT:∀ (l:List Nat) (G:FG),(qP l G).up=G.up∧(qP l G).mr=G.mr∧(qP l G).K=G.K∧(qP l G).R=G.R
 | [],G=>⟨rfl,rfl,rfl,rfl⟩
 | x::t,G=>by
  obtain ⟨h1,h2,h3,h4⟩:=tT t (prt G x);exact ⟨h1,h2,h3,h4⟩
theorem FP:∀ (l:List Nat) (G:FG),FF n G hom L ex→Ring G.nx l→(∀z,z∈l→z<n∧G.up z=-1∧0<hom z)→
  FF n (qP l G) hom L ex∧(∀z,z∈l→(qP l G).nx z=z)∧(∀l',Ring G.nx l'→(∀z,z∈l'→z∉l)→Ring (qP l G).nx l')
 | [],G,H,hr,hl=>⟨H,fun z hz=>(by cases hz),fun l' h _=>h⟩
 | x::t,G,H,hr,hl=>by
  have hx:=hl x σ;obtain ⟨p1,p2⟩:=H.rg.part hr (fun z hz=>(hl z hz).1)
  have hpm:G.pv x∈x::t:=by
   rcases List.eq_nil_or_concat t with rfl|⟨a,y,e⟩
   ·have e1:=gW.1 hr;have:=H.rg.pn x hx.1;rw [e1] at this;simp [this]
   ·rw [List.concat_eq_append] at e;subst e;have:=H.rg.last (x:=x) (y:=y) (a:=a) hr (hl y σ).1;rw [this];simp
  have hp:=hl _ hpm;have H1:FF n (prt G x) hom L ex:=H.H9 hx.1 hp.1 hx.2.1 hp.2.1 hx.2.2 hp.2.2;have hnd:=List.nodup_cons.1 hr.nd;obtain ⟨r1,r2,r3⟩:=FP t (prt G x) H1 p2 (fun z hz=>hl z (by simp [hz]))
  refine ⟨r1,fun z hz=>?_,fun l' h' hd=>r3 l' (h'.lF (fun hm=>hd x hm σ) (fun hm=>hd _ hm hpm)) (fun z hz hm=>hd z hz (by simp [hm]))⟩
  rcases List.mem_cons.1 hz with rfl|hz
  ·exact gW.1 (r3 [z] p1 (fun y hy=>by simp at hy;subst hy;exact hnd.1))
  ·exact r2 z hz
theorem Dm (b:Bool) (R l:List Nat):(r9 b R l).Perm (R++l):=by
 unfold r9;cases R with
 | nil=>exact List.Perm.refl _
 | cons t s=>
  cases l with
  | nil=>simp
  | cons x r=>
   simp only
   split
   ·exact List.perm_append_comm (l₁:=x::s) (l₂:=t::r) |>.trans (by
     show (t::(r++x::s)).Perm (t::(s++x::r))
     refine List.Perm.cons t ?_
     exact List.perm_middle.trans ((List.Perm.cons x List.perm_append_comm).trans List.perm_middle.symm))
   ·show (t::(r++x::s)).Perm (t::(s++x::r))
    refine List.Perm.cons t ?_;exact List.perm_middle.trans ((List.Perm.cons x List.perm_append_comm).trans List.perm_middle.symm)
theorem ru (lt:Nat→Nat→Bool) (h:Nat) (l:List Nat) (G:FG):(fO lt h l G).up=G.up∧(fO lt h l G).mr=G.mr∧(fO lt h l G).K=G.K∧∀g,g≠h→(fO lt h l G).R g=G.R g:=by
 unfold fO
 split
 ·exact ⟨rfl,rfl,rfl,fun g hg=>aP _ _ hg⟩
 ·exact ⟨rfl,rfl,rfl,fun g hg=>aP _ _ hg⟩
theorem xm {lt:Nat→Nat→Bool} {h x:Nat} {r:List Nat} (H:FF n G hom L ex) (h1:1≤h) (hl:DF n G hom h L lt) (tr:∀a b c,L a b→L b c→L a c) (hR:Ring G.nx (G.R h)) (hx:Ring G.nx (x::r)) (hd:∀z,z∈G.R h→z∉x::r)
  (mR:∀z,z∈G.R h→xN n G hom h z) (mx:∀z,z∈x::r→xN n G hom h z) (tR:∀t s,G.R h=t::s→∀y,y∈s→L t y) (tx:∀y,y∈r→L x y) :
  FF n (fO lt h (x::r) G) hom L ex∧Ring (fO lt h (x::r) G).nx ((fO lt h (x::r) G).R h)∧((fO lt h (x::r) G).R h).Perm (G.R h++x::r)∧
   (∀t s,(fO lt h (x::r) G).R h=t::s→∀y,y∈s→L t y)∧(∀l',Ring G.nx l'→(∀z,z∈l'→z∉G.R h∧z∉x::r)→Ring (fO lt h (x::r) G).nx l'):=by
 cases hRR:G.R h with
 | nil=>
  have e:fO lt h (x::r) G={ G with R:=ai G.R h (x::r) }:=by unfold fO;rw [hRR]
  rw [e];have eR:ai G.R h (x::r) h=x::r:=bu _ _ _;simp only [eR];exact ⟨H.bJ _,hx,List.Perm.refl _,fun t s e y hy=>by injection e with e1 e2;subst e1 e2;exact tx y hy,fun l' h _=>h⟩
 | cons t s=>
  have e:fO lt h (x::r) G={ H9 G t x with R:=ai G.R h (r9 (lt x t) (t::s) (x::r)) }:=by unfold fO;rw [hRR]
  rw [e];rw [hRR] at hR hd mR;have ht:=mR t σ;have hxr:=mx x σ;have hne:x≠t:=fun e=>hd t σ (by simp [e])
  have h0:(0:Int)<hom t∧(0:Int)<hom x:=⟨by rw [ht.2.2];omega,by rw [hxr.2.2];omega⟩
  have hk:=hl x t hxr.1 ht.1 hxr.2.2 ht.2.2 hne;have eR:ai G.R h (r9 (lt x t) (t::s) (x::r)) h=r9 (lt x t) (t::s) (x::r):=bu _ _ _;have hj:Ring (bO G.nx t x) (t::r++x::s):=Ring.join hR hx hd;have hts:=tR t s hRR;simp only [eR];refine ⟨(H.H9 ht.1 hxr.1 ht.2.1 hxr.2.1 h0.1 h0.2).bJ _,?_,Dm _ _ _,fun t' s' e' y hy=>?_,fun l' hl' hd'=>hl'.lF (fun hm=>(hd' t hm).1 σ) (fun hm=>(hd' x hm).2 σ)⟩
  ·show Ring (bO G.nx t x) _
   unfold r9;simp only;cases hb:lt x t with
   | true=>exact Ring.NH (a:=t::r) (b:=x::s) hj
   | false=>exact hj
  ·unfold r9 at e';simp only at e';cases hb:lt x t with
   | true=>
    rw [hb] at hk;rw [hb,if_pos rfl] at e';have hxt:=hk.1 rfl;have e1:x=t':=by injection e'
    have e2:s++t::r=s':=by injection e'
    subst e1 e2;simp only [List.mem_append,List.mem_cons] at hy;rcases hy with hy|rfl|hy
    ·exact tr _ _ _ hxt (hts y hy)
    ·exact hxt
    ·exact tx y hy
   | false=>
    rw [hb] at hk;rw [hb,if_neg σ] at e';have htx:=hk.2 rfl;have e1:t=t':=by injection e'
    have e2:r++x::s=s':=by injection e'
    subst e1 e2;simp only [List.mem_append,List.mem_cons] at hy;rcases hy with hy|rfl|hy
    ·exact tr _ _ _ htx (tx y hy)
    ·exact htx
    ·exact hts y hy
end
def nU (lt:Nat→Nat→Bool) (h:Nat):List Int→FG→Nat→FG×Nat
 | [],G,q=>(G,q)
 | y::t,G,q=>if y=-1 then nU lt h t G q else nU lt h t (fO lt h [y.toNat] G) (q+oM h G)
def BA (T:List Int):List Nat:=T.filterMap (fun y=>if y=-1 then none else some y.toNat)
theorem pG (y:Int) (t:List Int):BA (y::t)=if y=-1 then BA t else y.toNat::BA t:=by
 unfold BA;rw [List.filterMap_cons];split<;>rename_i h<;>by_cases e:y=-1<;>simp_all
theorem Ff:∀T:List Int,(BA T).length=lT T
 | []=>rfl
 | y::t=>by
  rw [pG];have ih:=Ff t;unfold lT at *
  by_cases e:y=-1
  ·rw [if_pos e,List.filter_cons_of_neg (by simpa using e)];exact ih
  ·rw [if_neg e,List.filter_cons_of_pos (by simpa using e)];simp [ih]
structure wR (n:Nat) (hom:Nat→Int) (L:Nat→Nat→Prop) (h:Nat) (ps:List Nat) (G:FG):Prop where
 ff:FF n G hom L (fun _=>0)
 fr:FR n G hom L (some h)
 ring:Ring G.nx (G.R h)
 top:∀t s,G.R h=t::s→∀y,y∈s→L t y
 mem:∀y,y∈G.R h→xN n G hom h y
 nd:ps.Nodup
 pr:∀z,z∈ps→xN n G hom h z∧G.nx z=z∧z∉G.R h
 all:∀z,xN n G hom h z→z∈G.R h∨z∈ps
section
variable {n:Nat} {hom:Nat→Int} {L:Nat→Nat→Prop} {h:Nat} {G:FG}
theorem wR.step {lt:Nat→Nat→Bool} {z:Nat} {ps:List Nat} (H:wR n hom L h (z::ps) G) (h1:1≤h) (hl:∀G,DF n G hom h L lt) (tr:∀a b c,L a b→L b c→L a c) :
  wR n hom L h ps (fO lt h [z] G)∧((fO lt h [z] G).R h).length=(G.R h).length+1:=by
 obtain ⟨z1,z2,z3⟩:=H.pr z σ;have hnd:=List.nodup_cons.1 H.nd;obtain ⟨c1,c2,c3,c4,c5⟩:=xm H.ff h1 (hl G) tr H.ring (gW.2 z2) (fun y hy hm=>by simp at hm;subst hm;exact z3 hy) H.mem (fun y hy=>by simp at hy;subst hy;exact z1) H.top (fun y hy=>by cases hy)
 obtain ⟨s1,s2,s3,s4⟩:=ru lt h [z] G;have rt:∀g y,xN n (fO lt h [z] G) hom g y↔xN n G hom g y:=fun g y=>by unfold xN;rw [s1]
 have mem':∀y,y∈(fO lt h [z] G).R h↔y∈G.R h∨y=z:=fun y=>by rw [c3.mem_iff];simp
 refine ⟨⟨c1,⟨fun g hg=>?_,fun g y hg=>?_,fun g t s hg hR=>?_⟩,c2,c4,fun y hy=>?_,hnd.2,fun y hy=>?_,fun y hy=>?_⟩,by rw [c3.length_eq];simp⟩
 ·have hgh:g≠h:=fun e=>hg (by rw [e])
  rw [s4 g hgh];refine c5 _ (H.fr.ring g hg) (fun y hy=>?_)
  have hm:=(H.fr.mem g y hg).1 hy;refine ⟨fun hm2=>hgh ?_,fun hm2=>hgh ?_⟩
  ·have:=(H.mem y hm2).2.2;have:=hm.2.2.2;omega
  ·simp at hm2;subst hm2;have:=z1.2.2;have:=hm.2.2.2;omega
 ·have hgh:g≠h:=fun e=>hg (by rw [e])
  rw [s4 g hgh,s1];exact H.fr.mem g y hg
 ·have hgh:g≠h:=fun e=>hg (by rw [e])
  rw [s4 g hgh] at hR;exact H.fr.top g t s hg hR
 ·rw [rt];rcases (mem' y).1 hy with hy|rfl
  ·exact H.mem y hy
  ·exact z1
 ·obtain ⟨y1,y2,y3⟩:=H.pr y (by simp [hy])
  have hyz:y≠z:=fun e=>hnd.1 (e▸hy)
  refine ⟨(rt h y).2 y1,gW.1 (c5 [y] (gW.2 y2) (fun w hw=>by simp at hw;subst hw;exact ⟨y3,by simpa using hyz⟩)),fun hm=>?_⟩
  rcases (mem' y).1 hm with hm|hm
  ·exact y3 hm
  ·exact hyz hm
 ·rcases H.all y ((rt h y).1 hy) with a|a
  ·exact Or.inl ((mem' y).2 (Or.inl a))
  ·rcases List.mem_cons.1 a with a|a
   ·exact Or.inl ((mem' y).2 (Or.inr a))
   ·exact Or.inr a
theorem yR (h:Nat) (G:FG):oM h G=min 1 (G.R h).length:=by
 unfold oM;cases G.R h with
 | nil=>simp
 | cons t s=>simp
theorem Er {lt:Nat→Nat→Bool} (h1:1≤h) (hl:∀G,DF n G hom h L lt) (tr:∀a b c,L a b→L b c→L a c):∀ (T:List Int) (G:FG) (q:Nat),wR n hom L h (BA T) G→
  wR n hom L h [] (nU lt h T G q).1∧((nU lt h T G q).1.up=G.up∧(nU lt h T G q).1.mr=G.mr∧(nU lt h T G q).1.K=G.K∧∀g,g≠h→(nU lt h T G q).1.R g=G.R g)∧
   ((nU lt h T G q).1.R h).Perm (G.R h++BA T)∧(nU lt h T G q).2+min 1 ((nU lt h T G q).1.R h).length=q+lT T+min 1 (G.R h).length
 | [],G,q,H=>⟨H,⟨rfl,rfl,rfl,fun _ _=>rfl⟩,by simp [BA,nU],by simp [nU,lT]⟩
 | y::t,G,q,H=>by
  rw [pG] at H;unfold nU
  by_cases e:y=-1
  ·rw [if_pos e] at H ⊢;obtain ⟨r1,r2,r3,r4⟩:=Er h1 hl tr t G q H;refine ⟨r1,r2,by rw [pG,if_pos e];exact r3,?_⟩
   have:lT (y::t)=lT t:=by unfold lT;rw [List.filter_cons_of_neg (by simpa using e)]
   rw [this];exact r4
  ·rw [if_neg e] at H ⊢;obtain ⟨k1,k2⟩:=H.step h1 hl tr;obtain ⟨s1,s2,s3,s4⟩:=ru lt h [y.toNat] G;obtain ⟨r1,r2,r3,r4⟩:=Er h1 hl tr t _ (q+oM h G) k1;have hp:((fO lt h [y.toNat] G).R h).Perm (G.R h++[y.toNat]):=by
    obtain ⟨z1,z2,z3⟩:=H.pr y.toNat σ;exact (xm H.ff h1 (hl G) tr H.ring (gW.2 z2) (fun w hw hm=>by simp at hm;subst hm;exact z3 hw) H.mem (fun w hw=>by simp at hw;subst hw;exact z1) H.top (fun w hw=>by cases hw)).2.2.1
   refine ⟨r1,⟨r2.1.trans s1,r2.2.1.trans s2,r2.2.2.1.trans s3,fun g hg=>(r2.2.2.2 g hg).trans (s4 g hg)⟩,?_,?_⟩
   ·rw [pG,if_neg e];exact r3.trans ((hp.append_right (BA t)).trans σ)
   ·have:lT (y::t)=lT t+1:=by unfold lT;rw [List.filter_cons_of_pos (by simpa using e)];rfl
    rw [this];rw [yR] at r4;rw [yR];omega
theorem TT.Pm {T:List Int} (H:TT n hom L h T [] G):(BA T).Pairwise (fun a b=>(G.K a).length≠(G.K b).length):=by
 unfold BA;rw [List.pairwise_filterMap,List.pairwise_iff_getElem];intro i j hi hj hij a ha b hb;have f:∀ (i:Nat) (hi:i<T.length) (a:Nat),(if T[i]=-1 then none else some T[i].toNat)=some a→(G.K a).length=i:=fun i hi a ha=>by
  rcases H.tab i T[i] (List.getElem?_eq_getElem hi) with e|⟨z,e1,_,e2,_⟩
  ·rw [if_pos e] at ha;cases ha
  ·rw [if_neg ω] at ha;have:T[i].toNat=a:=by injection ha
   obtain rfl:z=a:=ω;exact e2
 rw [f i hi a ha,f j hj b hb];omega
theorem TT.ri {T:List Int} (H:TT n hom L h T [] G):wR n hom L h (BA T) G:=by
 have hm:∀z,z∈BA T↔(z:Int)∈T:=fun z=>by
  unfold BA;rw [List.mem_filterMap];constructor
  ·rintro ⟨y,hy,e⟩
   by_cases e1:y=-1
   ·rw [if_pos e1] at e;cases e
   ·rw [if_neg e1] at e;have e2:y.toNat=z:=by injection e
    obtain ⟨i,hi⟩:=List.mem_iff_getElem?.1 hy;rcases H.tab i y hi with e3|⟨w,e3,_⟩
    ·exact absurd e3 e1
    ·rw [show (z:Int)=y by omega];exact hy
  ·intro hz;exact ⟨z,hz,by rw [if_neg ω];simp⟩
 refine ⟨H.ff,H.fr,by rw [H.zero];exact Ring.nil _,fun t s e=>(by rw [H.zero] at e;cases e),fun y hy=>(by rw [H.zero] at hy;cases hy),H.Pm.imp (fun {a b} hab e=>hab (by rw [e])),fun z hz=>?_,fun z hz=>?_⟩
 ·obtain ⟨i,hi⟩:=List.mem_iff_getElem?.1 ((hm z).1 hz);rcases H.tab i z hi with e3|⟨w,e3,e4,_⟩
  ·omega
  ·obtain rfl:z=w:=ω;exact ⟨e4,H.one z e4,by rw [H.zero];simp⟩
 ·rcases H.all z hz with a|a
  ·cases a
  ·exact Or.inr ((hm z).2 a)
end
structure vT (A:NS) (G:FG):Prop where
 ff:FF A.cs.length G (fun y=>(A.c y).i) (bH A) (fun _=>0)
 fr:FR A.cs.length G (fun y=>(A.c y).i) (bH A) none
theorem FR.all {n:Nat} {G:FG} {hom:Nat→Int} {L:Nat→Nat→Prop} (H:FR n G hom L none) (h:Nat):Ring G.nx (G.R h)∧(∀y,y∈G.R h↔1≤h∧xN n G hom h y)∧∀t s,G.R h=t::s→∀y,y∈s→L t y:=
 ⟨H.ring h σ,fun y=>H.mem h y σ,fun t s e=>H.top h t s σ e⟩
section
variable {A:NS} {G:FG}
theorem vT.pE (I:vT A G) {h:Int} {m:Nat} (hm:bL A h=some m):xN A.cs.length G (fun y=>(A.c y).i) h.toNat m∧1≤h.toNat:=by
 have h0:0<h:=by
  apply Classical.byContradiction;intro hn;rw [mX hn] at hm;cases hm
 obtain ⟨h1,h2,h3⟩:=(dM h0).1 hm;refine ⟨⟨h1,?_,by show (A.c m).i=_;rw [h2];omega⟩,by omega⟩
 rcases I.ff.BH m h1 with e|⟨p,hp,e,_⟩
 ·exact e
 ·have ho:=I.ff.ord m p h1 e;have hh:=(I.ff.home m p h1 e).1;have hh':(A.c m).i=(A.c p).i:=hh;rcases h3 p hp (by rw [←hh',h2]) with e2|e2
  ·subst e2;exact absurd ho sJ
  ·exact absurd ho (nu e2)
theorem vT.mI (I:vT A G) {h:Nat} {t:Nat} {s:List Nat} (hR:G.R h=t::s):bL A (h:Int)=some t∧1≤h∧t<A.cs.length∧G.up t=-1∧(A.c t).i=h:=by
 obtain ⟨r1,r2,r3⟩:=I.fr.all h;obtain ⟨h1,t1,t2,t3⟩:=(r2 t).1 (by rw [hR];simp)
 have t3':(A.c t).i=(h:Int):=t3;refine ⟨?_,h1,t1,t2,t3'⟩;cases hm:bL A (h:Int) with
 | none=>
  have:=(iB ω).1 hm;have hp:0<cu A (h:Int):=dG.2 ⟨t,t1,t3',ω⟩;omega
 | some m=>
  obtain ⟨m1,m2⟩:=I.pE hm;rw [π] at m1;have hmem:=(r2 m).2 ⟨h1,m1⟩;rw [hR] at hmem;rcases List.mem_cons.1 hmem with e|e
  ·rw [e]
  ·have a1:=r3 t s hR m e;obtain ⟨_,_,h3⟩:=(dM ω).1 hm;rcases h3 t t1 t3' with e2|e2
   ·rw [e2]
   ·exact absurd a1 (nu e2)
theorem vT.J5 (I:vT A G) {h:Nat} (hR:G.R h=[]):bL A (h:Int)=none:=by
 cases hm:bL A (h:Int) with
 | none=>rfl
 | some m=>
  obtain ⟨m1,m2⟩:=I.pE hm;rw [π] at m1 m2;have:=((I.fr.all h).2.1 m).2 ⟨m2,m1⟩;rw [hR] at this;cases this
theorem vT.first (I:vT A G) {h:Nat} {t:Nat} {s:List Nat} (hR:G.R h=t::s) {y:Nat} (hy:y<A.cs.length) (hh:(A.c y).i=h) (hne:y≠t):bH A t y:=by
 obtain ⟨m1,m2,_⟩:=I.mI hR;obtain ⟨_,_,h3⟩:=(dM ω).1 m1;exact (h3 y hy hh).resolve_left hne
theorem vT.out (I:vT A G) {h:Nat} {z:Nat} (hz:z∈G.R h):1≤h∧z<A.cs.length∧G.up z=-1∧(A.c z).i=h∧bD A (z:Int)=true:=by
 obtain ⟨h1,t1,t2,t3⟩:=((I.fr.all h).2.1 z).1 hz;have t3':(A.c z).i=(h:Int):=t3;exact ⟨h1,t1,t2,t3',(af _ _).2 ⟨t1,ω⟩⟩
end
def mH (A:NS) (a b:Nat):Bool:=decide (bH A a b)
theorem wy (A:NS) (n:Nat) (G:FG) (hom:Nat→Int) (h:Nat):DF n G hom h (bH A) (mH A):=fun a b _ _ _ _ hne=>
 ⟨fun e=>by unfold mH at e;simpa using e,fun e=>by
  unfold mH at e;have e':¬bH A a b:=by simpa using e
  exact (gH hne).resolve_left e'⟩
def mD (h x:Nat) (rs:List Nat) (G:FG):FG:={ qP (x::rs) (bR G x) with R:=ai G.R h [] }
def o9 (A:NS) (h x:Nat) (rs:List Nat) (G:FG):TD:=tid (mH A) rs ⟨[],mD h x rs G,0⟩
def oI (A:NS) (h x:Nat) (rs:List Nat) (G:FG):FG×Nat:=nU (mH A) h (o9 A h x rs G).T (o9 A h x rs G).G 0
section
variable {A:NS} {G:FG}
theorem OX (I:vT A G) (ok:A.Ok) {h x:Nat} {s:List Nat} (hR:G.R h=x::s) :
  (Ring (bR G x).nx (x::(kl (G.K x)++s))∧(∀z,z∈x::(kl (G.K x)++s)→z<A.cs.length))∧
  TT A.cs.length (fun y=>((aL A x).c y).i) (bH A) h [] (kl (G.K x)++s) (mD h x (kl (G.K x)++s) G)∧
  (∀z,z<A.cs.length→((aL A (x:Int)).c z).i=(h:Int)→bD A (z:Int)=true)∧
  wR A.cs.length (fun y=>((aL A x).c y).i) (bH A) h (BA (o9 A h x (kl (G.K x)++s) G).T) (o9 A h x (kl (G.K x)++s) G).G∧(o9 A h x (kl (G.K x)++s) G).G.R h=[]∧
  vT (aL A x) (oI A h x (kl (G.K x)++s) G).1∧
  (o9 A h x (kl (G.K x)++s) G).q+(oI A h x (kl (G.K x)++s) G).2≤(G.K x).length+s.length∧
  (o9 A h x (kl (G.K x)++s) G).q+((oI A h x (kl (G.K x)++s) G).1.R h).length=(G.K x).length+s.length∧
  (((oI A h x (kl (G.K x)++s) G).1.R h).Pairwise (fun a b=>((oI A h x (kl (G.K x)++s) G).1.K a).length≠((oI A h x (kl (G.K x)++s) G).1.K b).length))∧
  (∀g,g≠h→(oI A h x (kl (G.K x)++s) G).1.R g=G.R g)∧(∀y,y∈(o9 A h x (kl (G.K x)++s) G).T→y=-1∨0≤y)∧(o9 A h x (kl (G.K x)++s) G).T.length≤A.cs.length+1∧(oI A h x (kl (G.K x)++s) G).1.mr=(o9 A h x (kl (G.K x)++s) G).G.mr:=by
 obtain ⟨m1,h1,hx,ux,hxh⟩:=I.mI hR;obtain ⟨_,_,_,_,hin⟩:=I.out (h:=h) (z:=x) (by rw [hR];simp)
 have hc:=fun y=>rq hin y
 have hcl:=dw A (x:Int);have h0:(0:Int)<(A.c x).i:=ω;obtain ⟨rF,r1,r2⟩:=I.ff.raise hx ux h0;have mx:=I.ff.free x hx ux;have up1:=Cs G ux;have K1:=Ak G x;obtain ⟨q1,q2,q3⟩:=I.fr.all h;rw [hR] at q1;have rootk:∀z,G.up z=-1→z∉G.K x:=fun z hz=>I.ff.oK hx hz
 have ring1:Ring (bR G x).nx (x::(kl (G.K x)++s)):=by
  have:=r2 [] s q1 (fun z hz=>rootk z (((q2 z).1 (by rw [hR];exact hz)).2.2.1))
  exact this
 have sr:∀z,z∈s→xN A.cs.length G (fun y=>(A.c y).i) h z:=fun z hz=>((q2 z).1 (by rw [hR];simp [hz])).2
 have kr:∀z,z∈G.K x→z<A.cs.length∧G.up z=x∧(A.c z).i=h:=fun z hz=>by
  obtain ⟨k1,k2⟩:=I.ff.kid x z hx hz;have k3:(A.c z).i=(A.c x).i:=(I.ff.home z x k1 k2).1;exact ⟨k1,k2,ω⟩
 have rsm:∀z,z∈kl (G.K x)++s↔z∈G.K x∨z∈s:=fun z=>by simp [OV]
 have up1z:∀z,z∈x::(kl (G.K x)++s)→z<A.cs.length∧(bR G x).up z=-1∧0<(A.c z).i:=fun z hz=>by
  rw [up1];rcases List.mem_cons.1 hz with rfl|hz
  ·exact ⟨hx,by rw [ux];split<;>rfl,h0⟩
  ·rcases (rsm z).1 hz with hz|hz
   ·exact ⟨(kr z hz).1,by rw [if_pos hz],by have:=(kr z hz).2.2;omega⟩
   ·have a:=sr z hz;have a3:(A.c z).i=h:=a.2.2;exact ⟨a.1,by rw [if_neg (rootk z a.2.1)];exact a.2.1,ω⟩
 have hnd:=List.nodup_cons.1 ring1.nd;obtain ⟨p1,p2,p3⟩:=FP (x::(kl (G.K x)++s)) (bR G x) rF ring1 up1z;obtain ⟨e1,e2,e3,e4⟩:=tT (x::(kl (G.K x)++s)) (bR G x);have up3:∀z,(mD h x (kl (G.K x)++s) G).up z=if z∈G.K x then -1 else G.up z:=fun z=>by
  show (qP (x::(kl (G.K x)++s)) (bR G x)).up z=_
  rw [e1,up1]
 have K3:(mD h x (kl (G.K x)++s) G).K=ai G.K x []:=by
  show (qP (x::(kl (G.K x)++s)) (bR G x)).K=_
  rw [e3,K1]
 have upx:(mD h x (kl (G.K x)++s) G).up x=-1:=by rw [up3,ux];split<;>rfl
 have hom':∀z,z≠x→((aL A (x:Int)).c z).i=(A.c z).i:=fun z hz=>by rw [hc,if_neg hz]
 have homx:((aL A (x:Int)).c x).i=0:=by rw [hc,if_pos rfl];rfl
 have F3:FF A.cs.length (mD h x (kl (G.K x)++s) G) (fun y=>((aL A (x:Int)).c y).i) (bH A) (fun _=>0):=by
  refine (p1.bJ (ai G.R h [])).mono (fun y p hy hu ho=>?_) (fun y hy h2=>?_)
  ·have hu':(mD h x (kl (G.K x)++s) G).up y=p:=hu;have hyx:y≠x:=fun e=>by subst e;rw [upx] at hu';omega
   have hpx:p≠x:=fun e=>by
    have hk:=(p1.bJ (ai G.R h [])).above hy hu;have hk2:y∈(mD h x (kl (G.K x)++s) G).K p:=hk.2;rw [K3,e,bu] at hk2;cases hk2
   have hh:=p1.home y p hy hu;have hh1:(A.c y).i=(A.c p).i:=hh.1;have hh2:0<(A.c y).i:=hh.2;exact ⟨by simp only [hom' y hyx,hom' p hpx];exact hh1,by simp only [hom' y hyx];exact hh2,ho⟩
  ·by_cases e:y=x
   ·subst e;exact ⟨upx,by show (mD h y (kl (G.K y)++s) G).K y=[];rw [K3,bu],p2 y σ⟩
   ·have h3:¬0<(A.c y).i:=by simp only [hom' y e] at h2;exact h2
    exact p1.alone y hy h3
 have rt3:∀g z,xN A.cs.length (mD h x (kl (G.K x)++s) G) (fun y=>((aL A (x:Int)).c y).i) g z→1≤g→z≠x∧(A.c z).i=g∧(z∈G.K x∨G.up z=-1):=fun g z hz hg=>by
  obtain ⟨a1,a2,a3⟩:=hz;have hzx:z≠x:=fun e=>by subst e;simp only [homx] at a3;omega
  simp only [hom' z hzx] at a3;rw [up3] at a2;refine ⟨hzx,a3,?_⟩
  split at a2
  ·rename_i hk;exact Or.inl hk
  ·exact Or.inr a2
 have R3:∀g,g≠h→(mD h x (kl (G.K x)++s) G).R g=G.R g:=fun g hg=>aP _ _ hg
 have fr3:FR A.cs.length (mD h x (kl (G.K x)++s) G) (fun y=>((aL A (x:Int)).c y).i) (bH A) (some h):=by
  refine ⟨fun g hg=>?_,fun g z hg=>?_,fun g t s' hg hR'=>?_⟩
  all_goals have hgh:g≠h:=fun e=>hg (by rw [e])
  ·rw [R3 g hgh];obtain ⟨a1,a2,_⟩:=I.fr.all g;have hz:∀z,z∈G.R g→G.up z=-1∧(A.c z).i=g:=fun z hz=>⟨((a2 z).1 hz).2.2.1,((a2 z).1 hz).2.2.2⟩
   refine p3 _ (r1 _ a1 (fun hm=>hgh (by have:=(hz x hm).2;omega)) (fun z hm=>rootk z (hz z hm).1)) (fun z hm hm2=>?_)
   have hzg:=(hz z hm).2;rcases List.mem_cons.1 hm2 with e|hm2
   ·subst e;exact hgh ω
   ·rcases (rsm z).1 hm2 with hm2|hm2
    ·have:=(kr z hm2).2.2;exact hgh ω
    ·have:(A.c z).i=h:=(sr z hm2).2.2;exact hgh ω
  ·rw [R3 g hgh,(I.fr.all g).2.1 z];constructor
   ·rintro ⟨a0,a1,a2,a3⟩;have a3':(A.c z).i=g:=a3;have hzx:z≠x:=fun e=>by subst e;exact hgh ω
    exact ⟨a0,a1,by rw [up3,if_neg (rootk z a2)];exact a2,by simp only [hom' z hzx];exact a3'⟩
   ·rintro ⟨a0,a1,a2,a3⟩;obtain ⟨b1,b2,b3⟩:=rt3 g z ⟨a1,a2,a3⟩ a0;rcases b3 with b3|b3
    ·have:=(kr z b3).2.2;exact absurd (show g=h by omega) hgh
    ·exact ⟨a0,a1,b3,b2⟩
  ·rw [R3 g hgh] at hR';exact (I.fr.all g).2.2 t s' hR'
 have T3:TT A.cs.length (fun y=>((aL A (x:Int)).c y).i) (bH A) h [] (kl (G.K x)++s) (mD h x (kl (G.K x)++s) G):=by
  refine ⟨F3,fr3,bu _ _ _,fun z hz=>?_,fun d y hy=>by simp at hy,hnd.2,fun z hz=>?_,fun z hz=>?_⟩
  ·obtain ⟨b1,b2,b3⟩:=rt3 h z hz h1;refine p2 z ?_;simp only [List.mem_cons,rsm];rcases b3 with b3|b3
   ·exact Or.inr (Or.inl b3)
   ·have:=(q2 z).2 ⟨h1,hz.1,b3,b2⟩;rw [hR] at this;rcases List.mem_cons.1 this with e|e
    ·exact absurd e b1
    ·exact Or.inr (Or.inr e)
  ·have hzx:z≠x:=fun e=>hnd.1 (e▸hz)
   have a:=up1z z (by simp [hz])
   refine ⟨a.1,by rw [up3,←up1];exact a.2.1,?_⟩
   simp only [hom' z hzx];rcases (rsm z).1 hz with b|b
   ·exact (kr z b).2.2
   ·exact (sr z b).2.2
  ·obtain ⟨b1,b2,b3⟩:=rt3 h z hz h1;left;rw [rsm];rcases b3 with b3|b3
   ·exact Or.inl b3
   ·have:=(q2 z).2 ⟨h1,hz.1,b3,b2⟩;rw [hR] at this;rcases List.mem_cons.1 this with e|e
    ·exact absurd e b1
    ·exact Or.inr e
 obtain ⟨t1,t2,t3,t4⟩:=KW h1 (fun G=>wy A A.cs.length G _ h) (kl (G.K x)++s) ⟨[],mD h x (kl (G.K x)++s) G,0⟩ T3 σ
 have eD:tid (mH A) (kl (G.K x)++s) ⟨[],mD h x (kl (G.K x)++s) G,0⟩=o9 A h x (kl (G.K x)++s) G:=rfl;rw [eD] at t1 t2 t3 t4;have hri:=t1.ri;obtain ⟨u1,u2,u3,u4⟩:=Er h1 (fun G=>wy A A.cs.length G _ h) (fun a b c=>bE) _ _ 0 hri
 have e4':nU (mH A) h (o9 A h x (kl (G.K x)++s) G).T (o9 A h x (kl (G.K x)++s) G).G 0=oI A h x (kl (G.K x)++s) G:=rfl;rw [e4'] at u1 u2 u3 u4;rw [t1.zero,List.nil_append] at u3;rw [t1.zero] at u4;have hlen:=u3.length_eq;rw [Ff] at hlen;have ho0:lT (TD.mk [] (mD h x (kl (G.K x)++s) G) 0).T=0:=rfl;have hl2:(kl (G.K x)++s).length=(G.K x).length+s.length:=by rw [List.length_append,Ol]
 have hq0:(TD.mk [] (mD h x (kl (G.K x)++s) G) 0).q=0:=rfl;rw [ho0,hl2,hq0] at t2;simp only [List.length_nil] at u4;refine ⟨⟨ring1,fun z hz=>(up1z z hz).1⟩,T3,fun z hz hh=>?_,hri,t1.zero,⟨?_,?_⟩,?_,?_,?_,?_,fun y hy=>?_,t4,u2.2.1⟩
 ·have hzx:z≠x:=fun e=>by subst e;rw [homx] at hh;omega
  rw [hom' z hzx] at hh;exact (af _ _).2 ⟨hz,ω⟩
 ·rw [hcl];refine u1.ff.mono (fun y p hy hu ho=>?_) (fun y hy h2=>u1.ff.alone y hy h2)
  have hh:=u1.ff.home y p hy hu;have hh1:((aL A (x:Int)).c y).i=((aL A (x:Int)).c p).i:=hh.1;have hh2:0<((aL A (x:Int)).c y).i:=hh.2;have hyx:y≠x:=fun e=>by rw [e,homx] at hh2;omega
  have hpx:p≠x:=fun e=>by rw [e,homx] at hh1;omega
  exact ⟨hh.1,hh.2,(dJ (by rw [hc,if_neg hpx]) (by rw [hc,if_neg hyx])).2 ho⟩
 ·rw [hcl];have mm:∀g y,y∈(oI A h x (kl (G.K x)++s) G).1.R g↔1≤g∧y<A.cs.length∧(oI A h x (kl (G.K x)++s) G).1.up y=-1∧((aL A (x:Int)).c y).i=g:=fun g y=>by
   by_cases e:g=h
   ·subst e;constructor
    ·intro hm;exact ⟨h1,u1.mem y hm⟩
    ·rintro ⟨_,a⟩;rcases u1.all y a with b|b
     ·exact b
     ·cases b
   ·exact u1.fr.mem g y (by simp;exact e)
  refine ⟨fun g _=>?_,fun g y _=>mm g y,fun g t s' _ hR' y hy=>?_⟩
  ·by_cases e:g=h
   ·subst e;exact u1.ring
   ·exact u1.fr.ring g (by simp;exact e)
  ·have hL:bH A t y:=by
    by_cases e:g=h
    ·subst e;exact u1.top t s' hR' y hy
    ·exact u1.fr.top g t s' (by simp;exact e) hR' y hy
   have ht:=(mm g t).1 (by rw [hR'];simp)
   have hy':=(mm g y).1 (by rw [hR'];simp [hy])
   have htx:t≠x:=fun e=>by subst e;rw [homx] at ht;omega
   have hyx:y≠x:=fun e=>by subst e;rw [homx] at hy';omega
   exact (dJ (by rw [hc,if_neg htx]) (by rw [hc,if_neg hyx])).2 hL
 ·omega
 ·omega
 ·rw [u2.2.2.1];exact u3.symm.pairwise (l:=BA _) t1.Pm (fun {a b} h=>Ne.symm h)
 ·intro g hg;rw [u2.2.2.2 g hg,t3];exact R3 g hg
 ·obtain ⟨i,hi⟩:=List.mem_iff_getElem?.1 hy;rcases t1.tab i y hi with e|⟨z,e,_⟩
  ·exact Or.inl e
  ·exact Or.inr ω
end
end Go.Proofs.YtklibcncmbofpaaGreat
