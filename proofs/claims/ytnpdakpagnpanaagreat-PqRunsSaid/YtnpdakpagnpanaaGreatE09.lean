/-
  Lemmas.
-/
import Derived.Deep.DeepCutAuto
import Derived.Outline
import Derived.Test.YtnpdakpagnpanaaGreatE03
set_option linter.all false
set_option maxHeartbeats 8000000
set_option maxRecDepth 10000
namespace Go.Proofs.YtnpdakpagnpanaaGreat
open Tryz
open Go Go.RowKit
structure wS where
 ty:TypeId
 p:Nat
 rd:List Nat
 wr:List Nat
 lt:Int->Int->Bool
 dom:Int->Prop
 at_:World->Nat->Prop
 sub:∀x,x∈wr->x∈rd
 low:∀{w:World} {q:Nat},at_ w q->∀x,x∈rd->x<w.heap.size
 upd:∀{w w':World} {S:List Nat} {q:Nat},at_ w q->ae S w w'->(∀x,x∈S->x∉rd)->at_ w' q
 asym:∀a b,lt a b=true->lt b a=false
 ahead:∀{w:World} {q:Nat} (x y:Int),at_ w q->dom x->dom y->q<=1000000->Kh ty p "Ahead" w (λv=>#[v,x,y]) λw e w'=>e=.returned (.bool (lt x y))/\at_ w' (q+1)/\ae wr w w'
structure Apart(O:wS)(bt ba n:Nat)(S:CS):Prop where
 bt:bt∉O.rd
 ba:ba∉O.rd
 blk:∀g,g∈S.blk n->g∉O.rd
def Apart.rd{O:wS}{bt ba n:Nat}{S:CS}(h:Apart O bt ba n S):∀g,g∈ba::S.blk n->g∉O.rd:=λg a=>by
 rcases ρ.1 a with rfl|a
 .exact h.ba
 .exact h.blk g a
def Apart.wr{O:wS}{bt ba n:Nat}{S:CS}(h:Apart O bt ba n S):bt∉O.wr/\ba∉O.wr/\∀g,g∈S.blk n->g∉O.wr:=
 ⟨λa=>h.bt (O.sub _ a),λa=>h.ba (O.sub _ a),λg b a=>h.blk g b (O.sub _ a)⟩
def UG(O:wS)(bt ba lo n:Nat)(S:CS)(d a b:Nat)(w:World)(h:bu w bt ba lo n S)(H:O.at_ w d)(u:O.dom a)(x:O.dom b)(N:d<=1000000)
  (I:a<n) (J:b<n) (p:qJ n S a=true) (q:qJ n S b=true) (y:a≠b) (D:qE n S a=qE n S b) (E:(S.k a).length+1<=n) (F:(S.k b).length+1<=n)
  (z:Apart O bt ba n S):
  Calls prog 195 #[bt,.iface O.ty (.pointer (some O.p)),(a:Int),(b:Int)] w λe w'=>
   ∃v,e=.returned (jY O.lt a b:Int)/\bu w' bt ba lo n (qA S v (jY O.lt a b) (nU O.lt a b))/\O.at_ w' (d+1)/\ae (O.wr++ba::S.blk n) w w'/\(∀g,g∈(qA S v (jY O.lt a b) (nU O.lt a b)).blk n->g∈S.blk n\/w.heap.size<=g):=by
 obtain⟨f,P,B,Q,A⟩:=(O.ahead (b:Int) (a:Int) H x u N).now;unfold Enters at B;have C:=λW (t:ae O.wr w W)=>h.upd t z.wr.1 z.wr.2.1 z.wr.2.2;have r:=λW (t:ae O.wr w W)=>J2 bt ba lo n S a b W (C W t) I J p q y D E;have s:=λW (t:ae O.wr w W)=>J2 bt ba lo n S b a W (C W t) J I q p (Ne.symm y) D.symm F;have G:=χ z.rd;clear C h H z D p q u x;unfold jY nU;generalize O.ty=R at *;cases j:O.lt b a with
 |true=>
  rw[j] at A;rw[Δ rfl,Δ rfl];clear j r
  go_enter func195,ntmps195
  go_wp2_with (first
   |((with_reducible refine A.mono ?_);rintro e K ⟨rfl,k,c⟩)
   | (((with_reducible refine (s _ c).mono ?_));rintro e L ⟨M,rfl,l,i,m⟩))
  go_ret;refine⟨_,rfl,l,O.upd k i G.out,(c.mono (by simp +contextual)).trans (i.mono (λg o=>τ.2 (Β o))),λg o=>?_⟩;rcases m g o with h|h
  .exact Α h
  .exact Β (Χ c.size h)
 |false=>
  rw[j] at A;rw[Γ σ,Γ σ];clear j s
  go_enter func195,ntmps195
  go_wp2_with (first
   |((with_reducible refine A.mono ?_);rintro e K ⟨rfl,k,c⟩)
   | (((with_reducible refine (r _ c).mono ?_));rintro e L ⟨M,rfl,l,i,m⟩))
  go_ret;refine⟨_,rfl,l,O.upd k i G.out,(c.mono (by simp +contextual)).trans (i.mono (λg o=>τ.2 (Β o))),λg o=>?_⟩;rcases m g o with h|h
  .exact Α h
  .exact Β (Χ c.size h)
def lS.shape{w:World}{F:List Nat}{v:Value}{xs:List Int}(h:lS w F v xs):∃a cap,v=.slice a xs.length cap/\cap<=9223372036854775807:=by
 obtain⟨a,cap,rfl,_,b,_⟩:=h
 grind
structure KM(O:wS)(w0 w:World)(bt ba lo n:Nat)(F0:List Nat)(va vb vn vo:Value)(C:CC):Prop where
 xI:∃S:CS,S.f=C.F/\bu w bt ba lo n S/\Apart O bt ba n S/\(∀g,g∈S.blk n->g∈F0\/w0.heap.size<g)/\(∀g,vn.ownBlock=some g->g∉S.blk n)/\(∀g,vo.ownBlock=some g->g∉S.blk n)
 les:O.at_ w C.q
 a:lS w0 F0 va C.A
 b:lS w0 F0 vb C.B
 box:aQ w w0.heap.size 77 1 (λ_=>vb)
 now:bB w (w0.heap.size+1) vn C.N
 out:bB w (w0.heap.size+1) vo C.O
 sep:∀g,vn.ownBlock=some g->vo.ownBlock≠some g
 upd:ae F0 w0 w
 old:∀g,g∈F0->g<w0.heap.size
 OT:(∀x,x∈O.wr->x∈F0)/\ba∈F0
 t0:bt<w0.heap.size
 k0:∀x,x∈O.rd->x<w0.heap.size
def lS.head{w:World}{F:List Nat}{a:Option Addr}{n c:Nat}{x:Int}{xs:List Int}(h:lS w F (.slice a n c) (x::xs)):∃g off,a=some ⟨g,off,none⟩/\g<w.heap.size/\g∉F/\w.cell? ⟨g,off,none⟩=some (x:V):=by
 obtain⟨d,cap,e,_,_,b⟩:=h;obtain⟨g,off,rfl,f,i,j⟩:=b 0 x rfl
 grind
def KM.deg{w0 w:World}{O:wS}{bt ba lo n:Nat}{c:List Nat}{d f g i:Value}{C:CC}(h:KM O w0 w bt ba lo n c d f g i C)(x:Int):
  Calls prog 194 #[bt,x] w λe w'=>e=.returned (dW n C.F x:Int)/\w'=w:=by
 obtain⟨S,a,b,_⟩:=h.xI;have:=tO bt ba lo n S x w b;rw[aaw,a] at this;exact this
def KM.far{w0 w:World}{O:wS}{bt ba lo n:Nat}{a:List Nat}{c d e f:Value}{C:CC}(h:KM O w0 w bt ba lo n a c d e f C){g off:Nat}{u:Value}(b:g<w0.heap.size)(i:g∉a)(j:w0.cell? ⟨g,off,none⟩=some u){G:List Nat}{W:World}(k:ae G w W)(m:∀x,x∈G->w0.heap.size<=x):
  W.cell? ⟨g,off,none⟩=some u:=by
 rw[k.cell (Ψ b h.upd.size) (λl=>by grind),h.upd.cell b i];exact j
def KM.Vo{w0 w:World}{O:wS}{bt ba lo n:Nat}{p:List Nat}{q r f j:Value}{C:CC}(h:KM O w0 w bt ba lo n p q r f j C){W:World}{d:Value}{s:List Int}
  (i:ae f.ownBlock.toList w W) (A:bB W (w0.heap.size+1) d s) (t:∀g,d.ownBlock=some g->f.ownBlock=some g\/w.heap.size<=g):KM O w0 W bt ba lo n p q r d j { C with N:=s }:=by
 obtain⟨S,u,k,v,x,l,y⟩:=h.xI;have m:∀g,g∈f.ownBlock.toList->w0.heap.size<g/\g∉S.blk n/\j.ownBlock≠some g:=λg a=>by
  have c:f.ownBlock=some g:=by grind
  exact⟨by have:=(h.now.lt g c).1;omega,l g c,h.sep g c⟩
 have z:=h.t0;have B:=h.old ba h.OT.2;have D:=h.k0
 refine ⟨⟨S,u,k.upd i (λb=>by grind) (λb=>by grind) (λg a b=>(m g b).2.1 a),v,x,λg a b=>?_,y⟩,O.upd h.les i (λg a b=>by grind),h.a,h.b,h.box.upd i (λb=>by grind),A,
  h.out.upd i (λg a b=>(m g b).2.2 a),λg a o=>?_,h.upd.joined i (λg a=>Β (by grind)),h.old,h.OT,h.t0,h.k0⟩
 .rcases t g a with e|e
  .exact l g e b
  .have:=(k.pq b).2;omega
 .rcases t g a with e|e
  .exact h.sep g e o
  .have:=(h.out.lt g o).2;omega
def KM.aes{w0 w:World}{O:wS}{bt ba lo n:Nat}{p:List Nat}{q r k i:Value}{C:CC}(h:KM O w0 w bt ba lo n p q r k i C){W:World}{d:Value}{s:List Int}
  (j:ae i.ownBlock.toList w W) (B:bB W (w0.heap.size+1) d s) (t:∀g,d.ownBlock=some g->i.ownBlock=some g\/w.heap.size<=g):KM O w0 W bt ba lo n p q r k d { C with O:=s }:=by
 obtain⟨S,u,l,v,x,y,m⟩:=h.xI;have o:∀g,g∈i.ownBlock.toList->w0.heap.size<g/\g∉S.blk n/\k.ownBlock≠some g:=λg a=>by
  have c:i.ownBlock=some g:=by grind
  exact⟨by have:=(h.out.lt g c).1;omega,m g c,λe=>h.sep g e c⟩
 have z:=h.t0;have D:=h.old ba h.OT.2;have E:=h.k0
 refine ⟨⟨S,u,l.upd j (λb=>by grind) (λb=>by grind) (λg a b=>(o g b).2.1 a),v,x,y,λg a b=>?_⟩,O.upd h.les j (λg a b=>by grind),h.a,h.b,h.box.upd j (λb=>by grind),
  h.now.upd j (λg a b=>(o g b).2.2 a),B,λg a A=>?_,h.upd.joined j (λg a=>Β (by grind)),h.old,h.OT,h.t0,h.k0⟩
 .rcases t g a with f|f
  .exact m g f b
  .have:=(l.pq b).2;omega
 .rcases t g A with f|f
  .exact h.sep g a f
  .have:=(h.now.lt g a).2;omega
def KM.aTo{w0 w:World}{O:wS}{bt ba lo n:Nat}{b:List Nat}{f c d e a:Value}{C:CC}(h:KM O w0 w bt ba lo n b f c d e C){A':List Int}(g:lS w0 b a A'):KM O w0 w bt ba lo n b a c d e { C with A:=A' }:=
 ⟨h.xI,h.les,g,h.b,h.box,h.now,h.out,h.sep,h.upd,h.old,h.OT,h.t0,h.k0⟩
def KM.bTo{w0 w:World}{O:wS}{bt ba lo n:Nat}{e:List Nat}{k v l m a:Value}{C:CC}(h:KM O w0 w bt ba lo n e k v l m C){o:List Int}(x:lS w0 e a o):
  KM O w0 (w.setCell w0.heap.size a) bt ba lo n e k a l m { C with B:=o }:=by
 obtain⟨S,p,q,r,f,s,t⟩:=h.xI;have d:ae [w0.heap.size] w (w.setCell w0.heap.size a):=(ae.refl _ _).setCell (Α σ) _;have u:=h.t0;have y:=h.old ba h.OT.2;have z:=h.k0;refine⟨⟨S,p,q.upd d ζ ζ (λg b c=>?_),r,f,s,t⟩,O.upd h.les d (λg b c=>by grind),h.a,x,(h.box.set 0 a).ext (λj A=>ζ),h.now.upd d (λg b c=>?_),h.out.upd d (λg b c=>?_),h.sep,h.upd.joined d (λg b=>Β (by grind)),h.old,h.OT,h.t0,h.k0⟩
 .simp at c;subst c;rcases f _ b with i|i
  .have:=h.old _ i;omega
  .omega
 .have:=(h.now.lt g b).1;simp at c;omega
 .have:=(h.out.lt g b).1;simp at c;omega
def KM.acf{w0 w:World}{O:wS}{bt ba lo n:Nat}{k:List Nat}{u x D l:Value}{C:CC}(h:KM O w0 w bt ba lo n k u x D l C){S:CS}(E:S.f=C.F)(K:bu w bt ba lo n S)(s:Apart O bt ba n S)
  (G:∀g,g∈S.blk n->g∈k\/w0.heap.size<g) (H:∀g,l.ownBlock=some g->g∉S.blk n) {W:World} {v:Value} {a b:Nat} (y:bu W bt ba lo n (qA S v a b)) (I:O.at_ W (C.q+1)) (m:ae (O.wr++ba::S.blk n) w W)
  (d:∀g,g∈(qA S v a b).blk n->g∈S.blk n\/w.heap.size<=g):
  KM O w0 (W.alloc (.cells #[(a:Int)] 3)) bt ba lo n k u x (.slice (some W.heap.size) 1 1) l { C with F:=iL C.F a b,N:=[(a:Int)],q:=C.q+1 }:=by
 have J:=h.old ba h.OT.2;have t:=h.k0;have z:=h.box.lt;have A:=m.size;have e:∀g,g∈O.wr++ba::S.blk n->g∈k\/w0.heap.size<g:=λg d=>by
  rcases τ.1 d with d|d
  .exact Α (h.OT.1 _ d)
  .rcases ρ.1 d with rfl|d
   .exact Α h.OT.2
   .exact G g d
 have o:∀g,l.ownBlock=some g->g∉O.wr++ba::S.blk n:=λg d e=>by
  have:=(h.out.lt g d).1;rcases τ.1 e with e|e
  .have:=t _ (O.sub _ e);omega
  .grind
 have j:ae [] W (W.alloc (.cells #[(a:Int)] 3)):=(ae.refl _ _).alloc _;have B:w0.heap.size∉O.wr++ba::S.blk n:=λp=>by
  rcases e _ p with i|i
  .have:=h.old _ i;omega
  .omega
 refine ⟨⟨qA S v a b,by rw [ac2,E],y.ag j,⟨s.bt,s.ba,λg c e=>?_⟩,λg f=>?_,λg c f=>?_,λg c f=>?_⟩,O.upd I j σ,h.a,h.b,(h.box.upd m B).upd j σ,bB.lit W _ a ω,
  (h.out.upd m o).upd j σ,λg c r=>?_,(h.upd.joined m (λg d=>by grind)).then j,h.old,h.OT,h.t0,h.k0⟩
 .rcases d _ c with i|i
  .exact s.blk g i e
  .have:=t _ e;omega
 .grind
 .simp[Value.ownBlock] at c;have:=(y.pq f).2;omega
 .rcases d g f with i|i
  .exact H g c i
  .have:=(h.out.lt g c).2;omega
 .simp[Value.ownBlock] at c;have:=(h.out.lt g r).2;omega
set_option maxRecDepth 100000 in
def Ru(Od:wS)(bt ba lo n:Nat)(S0:CS)(va vb:Value)(A B:List Int)(q0:Nat)(w:World)(h:bu w bt ba lo n S0)(hO:Od.at_ w q0)(hap:Apart Od bt ba n S0)(hbt:bt<w.heap.size)
    (ha:lS w (Od.wr++ba::S0.blk n) va A) (hb:lS w (Od.wr++ba::S0.blk n) vb B) (hrA:Qk n S0 A=true) (hrB:Qk n S0 B=true) (hno:A.any (λx=>decide (x∈B))=false)
    (hok:∀k,OO Od.dom Od.lt n k (ig Od.lt n k ⟨S0.f,A,B,[],[],q0⟩)):
    Calls prog 185 #[bt,.iface Od.ty (.pointer (some Od.p)),va,vb] w λe w'=>
      ∃k vn va' vb' vo,e=.returned (.tuple #[vo,true])/\KM Od w w' bt ba lo n (Od.wr++ba::S0.blk n) va' vb' vn vo (ig Od.lt n k ⟨S0.f,A,B,[],[],q0⟩)/\(ig Od.lt n k ⟨S0.f,A,B,[],[],q0⟩).A=[]/\(ig Od.lt n k ⟨S0.f,A,B,[],[],q0⟩).B=[]/\(ig Od.lt n k ⟨S0.f,A,B,[],[],q0⟩).N=[]:=by
  have hle:=h.le;have hu1:∀v,ae [] w (w.alloc (.cells #[v] 77)):=λv=>(ae.refl _ _).alloc _;have hbx:=eO w [vb] 77;have kA:=TV bt ba lo n S0 va A (w.alloc (.cells #[vb] 77)) (h.ag (hu1 vb)) _ (ha.upd (hu1 vb) σ);have kB:=TV bt ba lo n S0 vb B (w.alloc (.cells #[vb] 77)) (h.ag (hu1 vb)) _ (hb.upd (hu1 vb) σ);have kF:=DL (w.alloc (.cells #[vb] 77)) _ w.heap.size va vb A B (ha.upd (hu1 vb) σ) (hb.upd (hu1 vb) σ) (hbx.ext (λj hj=>by simp at hj;subst hj;rfl));rw[hrA] at kA;rw[hrB] at kB;rw[hno] at kF;have hold:∀g,g∈Od.wr++ba::S0.blk n->g<w.heap.size:=λg hg=>by
    rcases τ.1 hg with hg|hg
    · exact Od.low hO _ (Od.sub _ hg)
    · rcases ρ.1 hg with rfl|hg
      · exact h.row.lt
      · exact(h.pq hg).2
  have hM:KM Od w (w.alloc (.cells #[vb] 77)) bt ba lo n (Od.wr++ba::S0.blk n) va vb (.slice none 0 0) (.slice none 0 0) (ig Od.lt n 0 ⟨S0.f,A,B,[],[],q0⟩):=
    ⟨⟨S0,rfl,h.ag (hu1 vb),hap,(λg hg=>Α (by simp[hg])),(λg hg=>by cases hg),(λg hg=>by cases hg)⟩,Od.upd hO (hu1 vb) σ,ha,hb,hbx.ext (λj hj=>by simp at hj;subst hj;rfl),bB.nil _ _,bB.nil _ _,(λg hg=>by cases hg),(ae.refl _ _).alloc _,hold,⟨λx hx=>τ.2 (Α hx),σ⟩,hbt,λx hx=>Od.low hO x hx⟩
  have HOK:=χ hok;have HM0:=χ hM;have sa:=ha.shape;have sb:=hb.shape;obtain⟨a1,c1,rfl,hc1⟩:=sa;obtain⟨b1,d1,rfl,hd1⟩:=sb;clear hok hM ha hb hbx h hO hap hrA hrB hno hold;generalize hF0:Od.wr++ba::S0.blk n=F0 at *;clear hF0;generalize hC0:(⟨S0.f,A,B,[],[],q0⟩:CC)=C0 at *;clear hC0
  go_enter func185,ntmps185
  go_wp2_with (first
    |((with_reducible refine aP kA ?_))
    |((with_reducible refine aP kB ?_))
    | ((with_reducible refine aP kF ?_)))
  clear kA kB kF
  go_loopw [2,10,11,12] (λs2 s10 s11 s12 wr=>∃(k:Nat) (vb:Value),s12=.int .i64 (k:Int)/\k<=n+1/\KM Od w wr bt ba lo n F0 s2 vb s11 s10 (ig Od.lt n k C0)) (λ_ _ _ s12 _=>n+2-(intOf s12).toNat)
  case atStart=>exact⟨0,_,rfl,ω,HM0.out⟩
  case round=>
    obtain⟨k,vb,rfl,hk,hM⟩:=hrel;have hok:=HOK.out k;generalize hC:ig Od.lt n k C0=C at *;have HC:=χ hC;clear hC;obtain⟨F,A,B,N,O,q⟩:=C;obtain⟨a2,c2,rfl,hc2⟩:=hM.a.shape;obtain⟨b2,d2,rfl,hd2⟩:=hM.b.shape;obtain⟨n2,e2,rfl,hn2,he2,_⟩:=hM.now.shape;have hbx:=hM.box.cell 0 ω;have hsm:=hok.small;have hfw:=hok.few;simp only at hsm hfw
    by_cases hemp:A=[]/\B=[]/\N=[]
    · obtain⟨rfl,rfl,rfl⟩:=hemp
      obtain⟨o2,f2,rfl,_⟩:=hM.out.shape;have HM:=χ hM;clear hM hok;go_wp2;go_ret2;exact⟨k,_,_,_,_,rfl,by rw[HC.out];exact HM.out,by rw[HC.out],by rw[HC.out],by rw[HC.out]⟩
    · have hpos:0<A.length+B.length+N.length:=by
        rcases A with _|⟨x,t⟩
        · rcases B with _|⟨x,t⟩
          · rcases N with _|⟨x,t⟩
            · exact absurd ⟨rfl,rfl,rfl⟩ hemp
            · simp
          · simp;omega
        · simp;omega
      have hkn:k<=n:=hok.ends (by
        rcases A with _|⟨x,t⟩
        · rcases B with _|⟨x,t⟩
          · rcases N with _|⟨x,t⟩
            · exact absurd ⟨rfl,rfl,rfl⟩ hemp
            · exact Β (Β σ)
          · exact Β (Α σ)
        · exact Α σ)
      have HOKK:=χ hok;have HM:=χ hM;clear hemp hok hM
      go_upto_region 7 with(fail)
      go_cut [50] (λs50 wx=>s50=.bool (tA n k A F)/\KM Od w wx bt ba lo n F0 (.slice a2 A.length c2) (.slice b2 B.length d2) (.slice n2 N.length e2) u10 ⟨F,A,B,N,O,q⟩)
      case first=>
        rcases A with _|⟨x,t⟩
        · go_wp2_with fail
          go_meet
          exact⟨rfl,HM.out⟩
        · obtain⟨ga,oa,rfl,hgl,xm,hc⟩:=HM.out.a.head
          have hc1:=HM.out.far hgl xm hc (ae.refl [] _) σ;have kD:=HM.out.deg x;have NL:tA n k (x::t) F=(dW n F x == (k:Int)):=rfl;have HT:=χ NL;simp only at kD;clear NL hc;generalize dW n F x=d at *
          go_wp2_with (((with_reducible refine aP kD ?_)))
          go_meet
          exact⟨by rw[HT.out],HM.out⟩
      case rest=>
        obtain⟨rfl,hM1⟩:=hcut;have jZ:=χ hM1;clear hM1 HM hbx
        go_upto_if 50 with(fail)
        go_cut [2,11] (λs2 s11 wx=>∃vb,KM Od w wx bt ba lo n F0 s2 vb s11 u10 (takeA n k ⟨F,A,B,N,O,q⟩))
        case first=>
          cases NL:tA n k A F with
          |false=>
            go_wp2_with fail
            go_meet
            have e:takeA n k ⟨F,A,B,N,O,q⟩=⟨F,A,B,N,O,q⟩:=by
              rcases A with _|⟨x,t⟩
              · rfl
              · unfold takeA;simp only;rw[Γ (by simpa[tA] using NL)]
            rw[e];exact⟨_,jZ.out⟩
          |true=>
            rcases A with _|⟨x,t⟩
            · cases NL
            · have e:takeA n k ⟨F,x::t,B,N,O,q⟩=⟨F,t,B,N++[x],O,q⟩:=by
                unfold takeA;simp only;rw[Δ (by simpa[tA] using NL)]
              obtain⟨ga,oa,rfl,hgl,xm,hc⟩:=jZ.out.a.head;have hown:∀g,g∈(Value.slice n2 N.length e2).ownBlock.toList->w.heap.size<=g:=λg hg=>by have:=(jZ.out.now.lt g (by simpa using hg)).1;omega
              have r1:∀W,ae (Value.slice n2 N.length e2).ownBlock.toList wc W->W.cell? ⟨ga,oa,none⟩=some ((x:Int):V):=λW hW=>jZ.out.far hgl xm hc hW hown;have s0:ae (Value.slice n2 N.length e2).ownBlock.toList wc wc.drew:=(ae.refl _ _).drew;have hsl:=λW=>yA W (some ⟨ga,oa,none⟩) (t.length+1) c2 ω (by simp at hsm;omega);have Di:=(show lS w F0 (.slice (some ⟨ga,oa,none⟩) (t.length+1) c2) (x::t) from jZ.out.a).tail;obtain⟨a3,Cw⟩:=tT (some ⟨ga,oa,none⟩) (t.length+1) c2;rw[Cw] at hsl Di;simp only[Nat.add_sub_cancel] at hsl Di;have HTA:=χ Di;have hno:=jZ.out.now;have E:=χ e
              clear Di e NL Cw hc
              go_wp2_with fail
              go_region_held3 (λW=>ae (Value.slice n2 N.length e2).ownBlock.toList wc W)
                (first|assumption|exact(ae.refl _ _).drew|(have hS:=(by assumption:ae _ _ _);exact hS.alloc _))
                (first
                  | (have hS:=s0.alloc (.cells #[(x:Int)] 3)
                     refine tV rfl _ _ 77 rfl underlying77 (w.heap.size+1) (.slice n2 N.length e2) N rfl (hno.upd ((ae.refl [] _).drew.alloc (.cells #[(x:Int)] 3)) σ) wc.heap.size x rfl (pM wc [.int .i64 x] 3 0 _ rfl) ω (by have:=jZ.out.upd.size;have:=jZ.out.box.lt;simp;omega) ?_;intro v2 w2 ho2 hu2 hv2
                     have hS2:ae (Value.slice n2 N.length e2).ownBlock.toList wc w2:=hS.trans hu2))
              go_wp2_with fail
              go_meet
              rw[E.out];exact⟨_,(jZ.out.Vo hS2 ho2 (λg hg=>by rcases hv2 g hg with h|h;exact Α h;exact Β (by simp at h;omega))).aTo HTA.out⟩
        case rest=>
          have hT1:=zn n k ⟨F,A,B,N,O,q⟩;generalize gK:takeA n k ⟨F,A,B,N,O,q⟩=C1 at *;have HC1:=χ gK;clear gK jZ;obtain⟨F1,A1,B1,N1,O1,q1⟩:=C1;have hs1:A1.length+B1.length+N1.length+O1.length<=100001/\N1.length<=2:=by
            obtain⟨h1,h2⟩:=hT1;unfold tot at h1;simp only at h1 h2;omega
          obtain⟨hs1,hf1⟩:=hs1;obtain⟨vb1,hcut⟩:=hcut;obtain⟨a5,c5,rfl,hc5⟩:=hcut.a.shape;obtain⟨b5,d5,rfl,hd5⟩:=hcut.b.shape;obtain⟨n5,e5,rfl,KQ,he5,_⟩:=hcut.now.shape;simp only at KQ;have hbx:=hcut.box.cell 0 ω;have jZ:=χ hcut;clear hcut hT1 hsm hfw hpos
          go_upto_region 9 with(fail)
          go_cut [70] (λs70 wx=>s70=.bool (tA n k B1 F1)/\KM Od w wx bt ba lo n F0 (.slice a5 A1.length c5) (.slice b5 B1.length d5) (.slice n5 N1.length e5) u10 ⟨F1,A1,B1,N1,O1,q1⟩)
          case first=>
            rcases B1 with _|⟨x,t⟩
            · go_wp2_with fail
              go_meet
              exact⟨rfl,jZ.out⟩
            · obtain⟨ga,oa,rfl,hgl,xm,hc⟩:=jZ.out.b.head
              have hc1:=jZ.out.far hgl xm hc (ae.refl [] _) σ;have kD:=jZ.out.deg x;have NL:tA n k (x::t) F1=(dW n F1 x == (k:Int)):=rfl;have HT:=χ NL;simp only at kD;clear NL hc;generalize dW n F1 x=d at *
              go_wp2_with (((with_reducible refine aP kD ?_)))
              go_meet
              exact⟨by rw[HT.out],jZ.out⟩
          case rest=>
            obtain⟨rfl,hM2⟩:=hcut;have hbx:=hM2.box.cell 0 ω;have hbf:=hM2.box.free 0;have pW:=χ hM2;clear hM2 jZ
            go_upto_if 70 with(fail)
            go_cut [11] (λs11 wx=>∃vb,KM Od w wx bt ba lo n F0 (.slice a5 A1.length c5) vb s11 u10 (takeB n k ⟨F1,A1,B1,N1,O1,q1⟩))
            case first=>
              cases NL:tA n k B1 F1 with
              |false=>
                go_wp2_with fail
                go_meet
                have e:takeB n k ⟨F1,A1,B1,N1,O1,q1⟩=⟨F1,A1,B1,N1,O1,q1⟩:=by
                  rcases B1 with _|⟨x,t⟩
                  · rfl
                  · unfold takeB;simp only;rw[Γ (by simpa[tA] using NL)]
                rw[e];exact⟨_,pW.out⟩
              |true=>
                rcases B1 with _|⟨x,t⟩
                · cases NL
                · have e:takeB n k ⟨F1,A1,x::t,N1,O1,q1⟩=⟨F1,A1,t,N1++[x],O1,q1⟩:=by
                    unfold takeB;simp only;rw[Δ (by simpa[tA] using NL)]
                  obtain⟨ga,oa,rfl,hgl,xm,hc⟩:=pW.out.b.head;have hown:∀g,g∈(Value.slice n5 N1.length e5).ownBlock.toList->w.heap.size<g:=λg hg=>by have:=(pW.out.now.lt g (by simpa using hg)).1;omega
                  have r1:∀W,ae (Value.slice n5 N1.length e5).ownBlock.toList wc W->W.cell? ⟨ga,oa,none⟩=some ((x:Int):V):=λW hW=>pW.out.far hgl xm hc hW (λg hg=>by have:=hown g hg;omega);have r2:∀W,ae (Value.slice n5 N1.length e5).ownBlock.toList wc W->W.cell? w.heap.size=some (.slice (some ⟨ga,oa,none⟩) (x::t).length d5):=λW hW=>by rw[hW.cell pW.out.box.lt (λhm=>by have:=hown _ hm;simp at this)];exact hbx
                  have r3:∀W,ae (Value.slice n5 N1.length e5).ownBlock.toList wc W->W.frozen? w.heap.size=false:=λW hW=>by rw[hW.frozen pW.out.box.lt (λhm=>by have:=hown _ hm;simp at this)];exact hbf
                  have s0:ae (Value.slice n5 N1.length e5).ownBlock.toList wc wc:=ae.refl _ _;have p4:=r2 _ (s0.alloc (.cells #[(x:Int)] 3));have hsl:=λW=>yA W (some ⟨ga,oa,none⟩) (t.length+1) d5 ω (by simp at hs1;omega);have Di:=(show lS w F0 (.slice (some ⟨ga,oa,none⟩) (t.length+1) d5) (x::t) from pW.out.b).tail;obtain⟨a3,Cw⟩:=tT (some ⟨ga,oa,none⟩) (t.length+1) d5;rw[Cw] at hsl Di;simp only[Nat.add_sub_cancel] at hsl Di;have HTA:=χ Di;have hno:=pW.out.now;have E:=χ e;clear Di e NL Cw hc
                  go_wp2_with fail
                  go_region_law
                    (first
                      | (refine tV rfl _ _ 77 rfl underlying77 (w.heap.size+1) (.slice n5 N1.length e5) N1 rfl (hno.upd ((ae.refl [] _).drew.alloc (.cells #[(x:Int)] 3)) σ) wc.heap.size x rfl (pM wc [.int .i64 x] 3 0 _ rfl) ω (by have:=pW.out.upd.size;have:=pW.out.box.lt;simp;omega) ?_
                         intro v2 w2 ho2 hu2 hv2;have hS2:ae (Value.slice n5 N1.length e5).ownBlock.toList wc w2:=(s0.drew.alloc (.cells #[(x:Int)] 3)).trans hu2
                         have g3:=r3 _ hS2))
                  all_goals
                    go_wp2_with fail
                    go_meet
                    rw[E.out];exact⟨_,(pW.out.Vo hS2 ho2 (λg hg=>by rcases hv2 g hg with h|h;exact Α h;exact Β (by simp at h;omega))).bTo HTA.out⟩
            case rest=>
              have hT1:=z8 n k ⟨F1,A1,B1,N1,O1,q1⟩;generalize hC2:takeB n k ⟨F1,A1,B1,N1,O1,q1⟩=C2 at *;have HC2:=χ hC2;clear hC2 pW;obtain⟨F2,A2,B2,N2,O2,q2⟩:=C2;have hs2:A2.length+B2.length+N2.length+O2.length<=100001/\N2.length<=3:=by
                obtain⟨h1,h2⟩:=hT1;unfold tot at h1;simp only at h1 h2;omega
              obtain⟨hs2,hf2⟩:=hs2;obtain⟨vb2,hcut⟩:=hcut;obtain⟨n6,e6,rfl,hn6,he6,_⟩:=hcut.now.shape;obtain⟨o6,p6,rfl,ho6,hp6,_⟩:=hcut.out.shape;simp only at hn6;have Es:=χ hcut;clear hcut hT1 hs1 hf1
              go_upto_region 11 with(fail)
              go_cut [82] (λs82 wx=>s82=.bool (N2.length % 2 == 1)/\KM Od w wx bt ba lo n F0 (.slice a5 A1.length c5) vb2 (.slice n6 N2.length e6) (.slice o6 O2.length p6) ⟨F2,A2,B2,N2,O2,q2⟩)
              case first=>
                have key:∀m:Nat,N2.length=m->N2.length % 2=m % 2:=λm h=>by rw[h]
                match N2,hf2 with
                | [],_=>go_wp2_with fail;go_meet;exact⟨σ,Es.out⟩
                | [x],_=>go_wp2_with fail;go_meet;exact⟨σ,Es.out⟩
                | [x,y],_=>go_wp2_with fail;go_meet;exact⟨σ,Es.out⟩
                | [x,y,z],_=>go_wp2_with fail;go_meet;exact⟨σ,Es.out⟩
                |_::_::_::_::_,hf2=>simp at hf2;try omega
              case rest=>
                obtain⟨rfl,uD⟩:=hcut;have Ms:=χ uD;clear uD Es
                go_upto_if 82 with(fail)
                go_cut [10,11] (λs10 s11 wx=>∃va vb,va=.slice a5 A1.length c5/\KM Od w wx bt ba lo n F0 va vb s11 s10 (fV ⟨F2,A2,B2,N2,O2,q2⟩))
                case first=>
                  cases XI:(N2.length % 2 == 1) with
                  |false=>
                    go_wp2_with fail
                    go_meet
                    have e:fV ⟨F2,A2,B2,N2,O2,q2⟩=⟨F2,A2,B2,N2,O2,q2⟩:=by
                      match N2,hf2,XI with
                      | [],_,_=>rfl
                      | [x],_,XI=>simp at XI
                      | [x,y],_,_=>rfl
                      | [x,y,z],_,XI=>simp at XI
                      |_::_::_::_::_,hf2,_=>simp at hf2;try omega
                    rw[e];exact⟨_,_,rfl,Ms.out⟩
                  |true=>
                    rcases N2 with _|⟨x,r⟩
                    · simp at XI
                    · have e:fV ⟨F2,A2,B2,x::r,O2,q2⟩=⟨F2,A2,B2,r,O2++[x],q2⟩:=by
                        match r,hf2,XI with
                        | [],_,_=>rfl
                        | [y],_,XI=>simp at XI
                        | [y,z],_,_=>rfl
                        |_::_::_::_,hf2,_=>simp at hf2;try omega
                      obtain⟨n7,e7,he7,hn7,_,hcells⟩:=Ms.out.now.shape;obtain⟨gn,on,rfl,hc0⟩:=hcells 0 x rfl;cases he7;rw[ϔ] at hc0;have hsl:=λW=>yA W (some ⟨gn,on,none⟩) (r.length+1) e6 ω (by simp at hs2;omega);have hno:=λW (h:bB W (w.heap.size+1) (.slice (some ⟨gn,on,none⟩) (r.length+1) e6) (x::r))=>h.tail;obtain⟨a3,Cw⟩:=tT (some ⟨gn,on,none⟩) (r.length+1) e6;rw[Cw] at hsl hno;simp only[Nat.add_sub_cancel] at hsl hno;have HNO:=χ hno;have yG:=Ms.out.out;have E:=χ e;clear hno e XI Cw hcells
                      go_wp2_with (at_builtin;refine ym rfl _ _ 77 rfl underlying77 (w.heap.size+1) (.slice o6 O2.length p6) O2 rfl (yG.upd ((ae.refl [] _).alloc (.cells #[(x:Int)] 3)) σ) wc.heap.size x rfl (pM wc [.int .i64 x] 3 0 _ rfl) ω (by have:=Ms.out.upd.size;have:=Ms.out.box.lt;simp;omega) ?_;intro v2 w2 ho2 hu2 hv2)
                      go_meet
                      have hS2:ae (Value.slice o6 O2.length p6).ownBlock.toList wc w2:=((ae.refl _ _).alloc (.cells #[(x:Int)] 3)).trans hu2;have hm1:=Ms.out.aes hS2 ho2 (λg hg=>by rcases hv2 g hg with h|h;exact Α h;exact Β (by simp at h;omega));have hm2:=hm1.Vo (ae.refl _ _) (HNO.out _ hm1.now).1 (λg hg=>by rw[(HNO.out _ hm1.now).2] at hg;exact Α hg);rw[E.out];exact⟨_,_,rfl,hm2⟩
                case rest=>
                  have hT1:=Ro ⟨F2,A2,B2,N2,O2,q2⟩ hf2;have Ou:=HOKK.out.join;rw[HC1.out,HC2.out] at Ou;generalize yI:fV ⟨F2,A2,B2,N2,O2,q2⟩=C3 at *;have HC3:=χ yI;clear yI Ms;obtain⟨F3,A3,B3,N3,O3,q3⟩:=C3;simp only at Ou;obtain⟨hT1,hf3⟩:=hT1;simp only at hf3;obtain⟨va3,vb3,rfl,hcut⟩:=hcut;obtain⟨n8,e8,rfl,hn8,he8,_⟩:=hcut.now.shape;obtain⟨o8,p8,rfl,ho8,hp8,_⟩:=hcut.out.shape;simp only at hn8;have xO:=χ hcut;have HJ:=χ Ou;clear hcut hT1 hs2 hf2 Ou
                  go_upto_region 14 with(fail)
                  go_cut [93] (λs93 wx=>s93=.bool (N3.length == 2)/\KM Od w wx bt ba lo n F0 (.slice a5 A1.length c5) vb3 (.slice n8 N3.length e8) (.slice o8 O3.length p8) ⟨F3,A3,B3,N3,O3,q3⟩)
                  case first=>
                    match N3,hf3 with
                    | [],_=>go_wp2_with fail;go_meet;exact⟨σ,xO.out⟩
                    | [x],_=>go_wp2_with fail;go_meet;exact⟨σ,xO.out⟩
                    | [x,y],_=>go_wp2_with fail;go_meet;exact⟨σ,xO.out⟩
                    |_::_::_::_,hf3=>simp at hf3;try omega
                  case rest=>
                    obtain⟨rfl,wR⟩:=hcut;have x9:=χ wR;clear wR xO;have hst:Kv Od.lt n k ⟨F,A,B,N,O,q⟩=ou Od.lt ⟨F3,A3,B3,N3,O3,q3⟩:=by
                      unfold Kv;rw[HC1.out,HC2.out,HC3.out]
                    have hru:ig Od.lt n (k+1) C0=ou Od.lt ⟨F3,A3,B3,N3,O3,q3⟩:=by rw[ig,HC.out,hst]
                    have hq3:q3<=1000000:=by
                      have h:=Ub n k ⟨F,A,B,N,O,q⟩;rw[HC1.out,HC2.out,HC3.out] at h;simp only at h;rw[h];exact HOKK.out.asked
                    have HRU:=χ hru;clear hst hru HC1 HC2 HC3
                    match N3,hf3,HJ,x9,HRU with
                    | [],_,_,x9,HRU=>
                      go_wp2_with fail
                      go_roundw
                      case rel=>exact⟨k+1,_,by go_num,ω,by rw[HRU.out];exact x9.out⟩
                      case measure=>simp[intOf];omega
                    | [x],_,_,x9,HRU=>
                      go_wp2_with fail
                      go_roundw
                      case rel=>exact⟨k+1,_,by go_num,ω,by rw[HRU.out];exact x9.out⟩
                      case measure=>simp[intOf];omega
                    | [x,y],_,HJ,x9,HRU=>
                      obtain⟨a,b,rfl,rfl,hda,hdb,hja,hjb,hjne,hjra,hjrb,hjd,hjl1,hjl2⟩:=HJ.out x y rfl;obtain⟨S,hSf,hFo,hAp,hS4,hS5,hS6⟩:=x9.out.xI;obtain⟨n9,e9,he9,hn9,_,hcells⟩:=x9.out.now.shape;obtain⟨gn,on,rfl,hc0⟩:=hcells 0 (a:Int) rfl;obtain⟨gn2,on2,heq,hc1⟩:=hcells 1 (b:Int) rfl;cases heq;cases he9;rw[ϔ] at hc0;simp only at hSf;rw[←hSf] at hjra hjrb hjd hjl1 hjl2;have hgn:∀g,g∈Od.wr++ba::S.blk n->g≠gn:=λg hg e=>by
                        subst e;have hl:=(x9.out.now.lt g rfl).1;rcases τ.1 hg with hg|hg
                        · have:=x9.out.old _ (x9.out.OT.1 _ hg);omega
                        · rcases ρ.1 hg with rfl|hg
                          · have:=x9.out.old _ x9.out.OT.2;omega
                          · exact hS5 g rfl hg
                      have hgl:=(x9.out.now.lt gn rfl).2;have r1:∀W,ae (Od.wr++ba::S.blk n) wc W->W.cell? ⟨gn,on,none⟩=some ((a:Int):V):=λW hW=>by rw[hW.cell hgl (λhm=>hgn _ hm rfl)];exact hc0
                      have r2:∀W,ae (Od.wr++ba::S.blk n) wc W->W.cell? ⟨gn,on+1,none⟩=some ((b:Int):V):=λW hW=>by rw[hW.cell hgl (λhm=>hgn _ hm rfl)];exact hc1
                      have kJ:=UG Od bt ba lo n S q3 a b wc.drew (hFo.ag (ae.refl [] _).drew) (Od.upd x9.out.les (ae.refl [] _).drew σ) hda hdb hq3 hja hjb hjra hjrb hjne hjd hjl1 hjl2 hAp;clear hcells
                      go_wp2_with fail
                      go_region_held3 (λW=>ae (Od.wr++ba::S.blk n) wc W)
                        (first|assumption|exact(ae.refl _ _).drew|(have hS:=(by assumption:ae _ _ _);exact hS.alloc _))
                        (first
                          | (((with_reducible refine kJ.mono ?_));rintro e w2 ⟨v2,rfl,hF2,hL2,hu2,hg2⟩;have hS2:ae (Od.wr++ba::S.blk n) wc w2:=(ae.refl _ _).drew.trans hu2))
                      go_wp2_with fail
                      go_roundw
                      case rel=>
                        refine⟨k+1,vb3,by go_num,ω,?_⟩;rw[HRU.out];exact x9.out.acf hSf hFo hAp hS4 hS6 hF2 hL2 hS2 hg2
                      case measure=>simp[intOf];omega
                    |_::_::_::_,hf3,_,_,_=>simp at hf3;try omega
end Go.Proofs.YtnpdakpagnpanaaGreat
namespace Go.Proofs.YtnpdakpagnpanaaGreat
open Tryz
def uU:∀(n:Nat) (l:List Int),l.Nodup->(∀x,x∈l->0<=x/\x<n)->l.length<=n
 |0,l,_,h=>by
  cases l with
  |nil=>simp
  |cons x r=>have:=h x σ;omega
 |n+1,l,hn,h=>by
  have h1:=uU n (l.filter (λx=>x != (n:Int))) (hn.filter _) (λx hx=>by
   simp only[List.mem_filter] at hx;have:=h x hx.1;have h2:x≠n:=by simpa using hx.2
   omega)
  have h2:l.length<=(l.filter (λx=>x != (n:Int))).length+1:=by
   clear h1 h
   induction l with
   |nil=>simp
   |cons y r ih=>
    rw[Ζ] at hn
    by_cases hy:y=n
    .subst hy;have e:r.filter (λx=>x != (n:Int))=r:=by
      rw[List.filter_eq_self];intro a ha;simp;intro e;subst e;exact hn.1 ha
     rw[List.filter_cons_of_neg σ,e];simp
    .have:=ih hn.2;rw[List.filter_cons_of_pos (by simpa using hy)];simp only[Ω];omega
  omega
structure qD(n:Nat)(F:CF):Prop where
 xP:∀x,x<n->∀y,y∈F.k x->0<=y/\y<n/\F.u y.toNat=x
 nd:∀x,x<n->(F.k x).Nodup
 up:∀y,y<n->F.u y=-1\/∃p:Nat,p<n/\F.u y=p/\(y:Int)∈F.k p
 zS:∀x,x<n->∀i z,(F.k x)[i]?=some z->(F.k z.toNat).length=i
def VC(n:Nat):qD n CS.none.f:=⟨λx _ y a=>(by cases a),λx _=>Ϡ,λy _=>Α rfl,λx _ i z h=>by simp[CS.none,CS.f] at h⟩
def qD.self{n:Nat}{F:CF}(h:qD n F){x:Nat}(d:x<n):(x:Int)∉F.k x:=λc=>by
 obtain⟨i,a,b⟩:=List.getElem_of_mem c;have:=h.zS x d i x (by rw[ε a,b]);simp at this;omega
def qD.len{n:Nat}{F:CF}(h:qD n F){x:Nat}(b:x<n):(F.k x).length+1<=n:=by
 have:=uU n ((x:Int)::F.k x) (Ζ.2 ⟨h.self b,h.nd x b⟩) (λy a=>by
  rcases ρ.1 a with rfl|a
  .omega
  .have:=h.xP x b y a;omega)
 simpa using this
def qD.link{n:Nat}{F:CF}(h:qD n F){a b:Nat}(s:a<n)(A:b<n)(v:a≠b)(B:F.u a=-1)(C:F.u b=-1)(D:(F.k a).length=(F.k b).length):qD n (iL F a b):=by
 have u:∀x,x<n->(b:Int)∉F.k x:=λx d l=>by
  have:=(h.xP x d b l).2.2;simp at this;omega
 have w:∀x,x<n->(a:Int)∉F.k x:=λx d l=>by
  have:=(h.xP x d a l).2.2;simp at this;omega
 refine⟨λx d y f=>?_,λx d=>?_,λy f=>?_,λx d i z g=>?_⟩
 .unfold iL at f ⊢;simp only at f ⊢
  split at f
  .rename_i e
   subst e;rcases τ.1 f with f|f
   .obtain⟨j,o,t⟩:=h.xP x d y f
    grind
   .grind
  .obtain⟨j,o,t⟩:=h.xP x d y f
   grind
 .unfold iL;simp only
  split
  .rw[θ];exact⟨h.nd a s,σ,λy f z g e=>by simp at g;subst g;subst e;exact u a s f⟩
  .exact h.nd x d
 .unfold iL;simp only
  by_cases m:y=b
  .grind
  .rw[Γ m];rcases h.up y f with j|⟨p,hp,j,o⟩
   .exact Α j
   .grind
 .have q:∀z,z∈F.k x->(iL F a b).k z.toNat=F.k z.toNat:=λz g=>by
   unfold iL;simp only
   rw [Γ (λe=>by
    have:=h.xP x d z g
    grind)]
  have c:=g;unfold iL at c;simp only at c
  split at c
  .rename_i e
   subst e;rcases ϕ i (F.k x).length with r|r
   .rw[Ρ r] at c;rw[q z (Η c)];exact h.zS x d i z c
   .have k:i=(F.k x).length:=by
     grind
    subst k;rw[ϊ (Θ _)] at c;simp at c;subst c;unfold iL
    grind
  .rw[q z (Η c)];exact h.zS x d i z c
def CC.L(C:CC):List Int:=C.A++(C.B++(C.N++C.O))
structure G(n ka kb kn ko:Nat)(C:CC):Prop where
 f:qD n C.F
 rt:∀x,x∈C.L->0<=x/\x<n/\C.F.u x.toNat=-1
 nd:C.L.Nodup
 a1:C.A.Pairwise (λx y=>dW n C.F x<dW n C.F y)
 a2:∀x,x∈C.A->(ka:Int)<=dW n C.F x
 b1:C.B.Pairwise (λx y=>dW n C.F x<dW n C.F y)
 b2:∀x,x∈C.B->(kb:Int)<=dW n C.F x
 n1:∀x,x∈C.N->dW n C.F x=kn
 o1:C.O.Pairwise (λx y=>dW n C.F x<dW n C.F y)
 o2:∀x,x∈C.O->dW n C.F x<ko
def tK(n k:Nat)(C:CC):(takeA n k C).L.Perm C.L:=by
 obtain⟨F,A,B,N,O,q⟩:=C;unfold takeA
 split
 .rename_i x t h
  simp only at h;subst h
  split
  .unfold CC.L;simp only;rw[List.perm_iff_count];intro y;simp[List.count_append,List.count_cons];omega
  .exact ό _
 .exact ό _
def sV(n k:Nat)(C:CC):(takeB n k C).L.Perm C.L:=by
 obtain⟨F,A,B,N,O,q⟩:=C;unfold takeB
 split
 .rename_i x t h
  simp only at h;subst h
  split
  .unfold CC.L;simp only;rw[List.perm_iff_count];intro y;simp[List.count_append,List.count_cons];omega
  .exact ό _
 .exact ό _
def tJ(C:CC):(fV C).L.Perm C.L:=by
 obtain⟨F,A,B,N,O,q⟩:=C;unfold fV
 split
 .rename_i x h
  simp only at h;subst h;unfold CC.L;simp only;rw[List.perm_iff_count];intro y;simp[List.count_append,List.count_cons]
  try omega
 .rename_i x y z h
  simp only at h;subst h;unfold CC.L;simp only;rw[List.perm_iff_count];intro y;simp[List.count_append,List.count_cons]
  try omega
 .exact ό _
def Pj(n k:Nat)(C:CC):(takeA n k C).F=C.F:=by unfold takeA;split;(split<;>rfl);rfl
def OL(n k:Nat)(C:CC):(takeB n k C).F=C.F:=by unfold takeB;split;(split<;>rfl);rfl
def OP(C:CC):(fV C).F=C.F:=by unfold fV;split<;>rfl
def Ha{n k:Nat}{C:CC}(h:G n k k k k C):G n (k+1) k k k (takeA n k C):=by
 have hp:=tK n k C;have b:=Pj n k C;have rt:=λx (d:x∈(takeA n k C).L)=>h.rt x (hp.mem_iff.1 d);have r:=hp.nodup_iff.2 h.nd;have e:((takeA n k C).A.Pairwise (λx y=>dW n C.F x<dW n C.F y))/\(∀x,x∈(takeA n k C).A->((k+1:Nat):Int)<=dW n C.F x)/\(takeA n k C).B=C.B/\(∀x,x∈(takeA n k C).N->dW n C.F x=k)/\(takeA n k C).O=C.O:=by
  obtain⟨F,A,B,N,O,q⟩:=C;have c:=h.a1;have o:=h.a2;have f:=h.n1;simp only at c o f;unfold takeA;rcases A with _|⟨x,t⟩
  .grind
  .simp only;rw[List.pairwise_cons] at c;have d:=o x σ
   split
   .rename_i p
    refine⟨c.2,λy a=>?_,rfl,λy a=>?_,rfl⟩
    .have:=c.1 y a;omega
    .simp only at a;rcases τ.1 a with a|a
     .exact f y a
     .simp at a;subst a;exact p
   .rename_i p
    refine⟨List.pairwise_cons.2 c,λy a=>?_,rfl,f,rfl⟩;rcases ρ.1 a with rfl|a
    .omega
    .have:=c.1 y a;omega
 obtain⟨g,i,j,l,m⟩:=e;rw[←b] at g i l;exact⟨by rw[b];exact h.f,λx d=>by rw[b];exact rt x d,r,g,i,by rw[j,b];exact h.b1,by rw[j,b];exact h.b2,l,by rw[m,b];exact h.o1,by rw[m,b];exact h.o2⟩
def Gd{n k:Nat}{C:CC}(h:G n (k+1) k k k C):G n (k+1) (k+1) k k (takeB n k C):=by
 have hp:=sV n k C;have b:=OL n k C;have rt:=λx (d:x∈(takeB n k C).L)=>h.rt x (hp.mem_iff.1 d);have r:=hp.nodup_iff.2 h.nd;have e:((takeB n k C).B.Pairwise (λx y=>dW n C.F x<dW n C.F y))/\(∀x,x∈(takeB n k C).B->((k+1:Nat):Int)<=dW n C.F x)/\(takeB n k C).A=C.A/\(∀x,x∈(takeB n k C).N->dW n C.F x=k)/\(takeB n k C).O=C.O:=by
  obtain⟨F,A,B,N,O,q⟩:=C;have c:=h.b1;have o:=h.b2;have f:=h.n1;simp only at c o f;unfold takeB;rcases B with _|⟨x,t⟩
  .grind
  .simp only;rw[List.pairwise_cons] at c;have d:=o x σ
   split
   .rename_i p
    refine⟨c.2,λy a=>?_,rfl,λy a=>?_,rfl⟩
    .have:=c.1 y a;omega
    .simp only at a;rcases τ.1 a with a|a
     .exact f y a
     .simp at a;subst a;exact p
   .rename_i p
    refine⟨List.pairwise_cons.2 c,λy a=>?_,rfl,f,rfl⟩;rcases ρ.1 a with rfl|a
    .omega
    .have:=c.1 y a;omega
 obtain⟨g,i,j,l,m⟩:=e;rw[←b] at g i l;exact⟨by rw[b];exact h.f,λx d=>by rw[b];exact rt x d,r,by rw[j,b];exact h.a1,by rw[j,b];exact h.a2,g,i,l,by rw[m,b];exact h.o1,by rw[m,b];exact h.o2⟩
def FV{n k:Nat}{C:CC}(h:G n (k+1) (k+1) k k C):G n (k+1) (k+1) k (k+1) (fV C):=by
 have hp:=tJ C;have b:=OP C;have rt:=λx (c:x∈(fV C).L)=>h.rt x (hp.mem_iff.1 c);have m:=hp.nodup_iff.2 h.nd;have d:(fV C).A=C.A/\(fV C).B=C.B/\(∀x,x∈(fV C).N->x∈C.N)/\((fV C).O=C.O\/∃x,x∈C.N/\(fV C).O=C.O++[x]):=by
  unfold fV
  grind
 obtain⟨f,g,l,i⟩:=d;refine⟨by rw[b];exact h.f,λx c=>by rw[b];exact rt x c,m,by rw[f,b];exact h.a1,by rw[f,b];exact h.a2,by rw[g,b];exact h.b1,by rw[g,b];exact h.b2,λx c=>by rw[b];exact h.n1 x (l x c),?_,?_⟩
 .rw[b];rcases i with e|⟨x,c,e⟩
  .rw[e];exact h.o1
  .rw[e,List.pairwise_append];exact⟨h.o1,List.pairwise_singleton _ _,λy a z j=>by simp at j;subst j;rw[h.n1 z c];exact h.o2 y a⟩
 .rw[b];intro y a;rcases i with e|⟨x,c,e⟩
  .rw[e] at a;have:=h.o2 y a;omega
  .rw[e] at a;rcases τ.1 a with a|a
   .have:=h.o2 y a;omega
   .simp at a;subst a;rw[h.n1 y c];omega
def Ca{C:CC}(h:C.N.length<=3):(fV C).N=[]\/∃x y,(fV C).N=[x,y]:=by
 obtain⟨F,A,B,N,O,q⟩:=C;simp only at h
 match N,h with
 | [],_=>exact Α rfl
 | [x],_=>exact Α rfl
 | [x,y],_=>exact Β ⟨x,y,rfl⟩
 | [x,y,z],_=>exact Β ⟨y,z,rfl⟩
 |_::_::_::_::_,h=>simp at h;try omega
def fP(n:Nat)(F:CF){x:Nat}(a:x<n):dW n F x=(F.k x).length:=by unfold dW;rw[Δ ω];simp
def yP(n:Nat)(F:CF){a b:Nat}(d:a<n)(x:Int)(e:0<=x/\x<n):dW n (iL F a b) x=if x=a then dW n F a+1 else dW n F x:=by
 obtain⟨y,rfl⟩:=Int.eq_ofNat_of_zero_le e.1;have c:y<n:=ω;rw[fP _ _ c,fP _ _ d,fP _ _ c];unfold iL
 grind
def NA{n k:Nat}{C:CC}(h:G n (k+1) (k+1) k (k+1) C){x y:Int}(c:C.N=[x,y]):∃a b:Nat,x=a/\y=b/\a<n/\b<n/\a≠b/\C.F.u a=-1/\C.F.u b=-1/\(C.F.k a).length=k/\(C.F.k b).length=k:=by
 have d:=h.rt x (by unfold CC.L;rw[c];simp);have f:=h.rt y (by unfold CC.L;rw[c];simp);have j:=h.n1 x (by rw[c];simp);have l:=h.n1 y (by rw[c];simp);obtain⟨a,rfl⟩:=Int.eq_ofNat_of_zero_le d.1;obtain⟨b,rfl⟩:=Int.eq_ofNat_of_zero_le f.1;have g:a<n:=ω;have i:b<n:=ω;rw[fP _ _ g] at j;rw[fP _ _ i] at l;refine⟨a,b,rfl,rfl,g,i,λe=>?_,by simpa using d.2.2,by simpa using f.2.2,ω,ω⟩;subst e;have:=h.nd;unfold CC.L at this
 grind
def QA(lt:Int->Int->Bool)(a b:Nat):(jY lt a b=a/\nU lt a b=b)\/(jY lt a b=b/\nU lt a b=a):=by
 unfold jY nU
 grind
def aa0{lt:Int->Int->Bool}{n k:Nat}{C:CC}(h:G n (k+1) (k+1) k (k+1) C)(l:C.N=[]\/∃x y,C.N=[x,y]):G n (k+1) (k+1) (k+1) (k+1) (ou lt C)/\(ou lt C).N.length<=1/\(ou lt C).q+(ou lt C).L.length=C.q+C.L.length:=by
 rcases l with l|⟨x,y,l⟩
 .have e:ou lt C=C:=by unfold ou;rw[l]
  rw[e];exact⟨⟨h.f,h.rt,h.nd,h.a1,h.a2,h.b1,h.b2,λx c=>(by rw[l] at c;cases c),h.o1,h.o2⟩,by rw[l];simp,rfl⟩
 .obtain⟨a,b,rfl,rfl,P,Q,O,R,S,T,U⟩:=NA h l;have e:ou lt C={ C with F:=iL C.F (jY lt a b) (nU lt a b),N:=[(jY lt a b:Int)],q:=C.q+1 }:=by unfold ou;rw[l];simp
  have K:∀z,z∈C.A++(C.B++C.O)->z∈C.L/\z≠a/\z≠b:=λz f=>by
   have m:=h.nd;unfold CC.L at m ⊢
   grind
  have o:∀z,z∈C.A->z∈C.A++(C.B++C.O):=λz f=>by simp[f]
  have p:∀z,z∈C.B->z∈C.A++(C.B++C.O):=λz f=>by simp[f]
  have r:∀z,z∈C.O->z∈C.A++(C.B++C.O):=λz f=>by simp[f]
  obtain⟨d,lo,w,A,i,B,s,D,E,t,H,J⟩:∃d lo,jY lt a b=d/\nU lt a b=lo/\d<n/\lo<n/\d≠lo/\C.F.u d=-1/\C.F.u lo=-1/\(C.F.k d).length=k/\(C.F.k lo).length=k/\((d=a/\lo=b)\/(d=b/\lo=a)):=by
   rcases QA lt a b with⟨h1,h2⟩|⟨h1,h2⟩
   .grind
   .grind
  have L:∀z,z∈C.A++(C.B++C.O)->z≠(d:Int)/\z≠(lo:Int):=λz f=>by
   grind
  have j:∀z,z∈C.A++(C.B++C.O)->dW n (iL C.F d lo) z=dW n C.F z:=λz f=>by
   have u:=h.rt z (K z f).1;rw[yP n C.F i z ⟨u.1,u.2.1⟩,Γ (L z f).1]
  rw[e,w,A];have M:(CC.L { C with F:=iL C.F d lo,N:=[(d:Int)],q:=C.q+1 }).Perm ((d:Int)::(C.A++(C.B++C.O))):=by
   unfold CC.L
   grind
  refine⟨⟨h.f.link i B s D E (by rw[t,H]),λz f=>?_,M.nodup_iff.2 (Ζ.2 ⟨λI=>(L _ I).1 rfl,?_⟩),?_,?_,?_,?_,?_,?_,?_⟩,σ,?_⟩
  .rcases ρ.1 (M.mem_iff.1 f) with rfl|f
   .refine⟨ω,ω,?_⟩;unfold iL
    grind
   .have u:=h.rt z (K z f).1;refine⟨u.1,u.2.1,?_⟩;unfold iL
    grind
  .have m:=h.nd;unfold CC.L at m
   grind
  .exact h.a1.imp_of_mem (λ{x y} c v g=>by rw[j x (o x c),j y (o y v)];exact g)
  .intro x c
   show _<=dW n (iL C.F d lo) x
   rw[j x (o x c)];exact h.a2 x c
  .exact h.b1.imp_of_mem (λ{x y} c v g=>by rw[j x (p x c),j y (p y v)];exact g)
  .intro x c
   show _<=dW n (iL C.F d lo) x
   rw[j x (p x c)];exact h.b2 x c
  .intro x c;simp at c;subst c
   show dW n (iL C.F d lo) (d:Int)=_
   rw[yP n C.F i d ω,Δ rfl,fP n C.F i,t];omega
  .exact h.o1.imp_of_mem (λ{x y} c v g=>by rw[j x (r x c),j y (r y v)];exact g)
  .intro x c
   show dW n (iL C.F d lo) x<_
   rw[j x (r x c)];exact h.o2 x c
  .unfold CC.L;simp only[υ,Ω,List.length_nil,l];omega
def Iu{lt:Int->Int->Bool}{n:Nat}{C0:CC}(h:G n 0 0 0 0 C0)(hN:C0.N=[]):∀k,G n k k k k (ig lt n k C0)/\(ig lt n k C0).N.length<=1/\(ig lt n k C0).q+(ig lt n k C0).L.length=C0.q+C0.L.length
 |0=>⟨h,by rw[ig,hN];simp,rfl⟩
 |k+1=>by
  obtain⟨g,h1,h2⟩:=Iu (lt:=lt) h hN k;have g1:=Ha g;have g2:=Gd g1;have g3:=FV g2;have t1:=(zn n k (ig lt n k C0)).2;have t2:=(z8 n k (takeA n k (ig lt n k C0))).2;have ev:=Ca (C:=takeB n k (takeA n k (ig lt n k C0))) ω;obtain⟨g4,h3,h4⟩:=aa0 (lt:=lt) g3 ev;refine⟨g4,h3,?_⟩;rw[ig];unfold Kv;rw[h4,Ub,(tJ _).length_eq,(sV _ _ _).length_eq,(tK _ _ _).length_eq];exact h2
def wt(n:Nat)(F:CF)(l:List Int):Nat:=(l.map (λx=>2 ^ (dW n F x).toNat)).sum
def Gg{n:Nat}{F:CF}{l m:List Int}(h:l.Perm m):wt n F l=wt n F m:=by
 unfold wt
 grind
def Cx{n:Nat}{F F':CF}{l:List Int}(h:∀x,x∈l->dW n F x=dW n F' x):wt n F l=wt n F' l:=by
 unfold wt
 congr 1
 exact List.map_congr_left (λx a=>by rw[h x a])
structure RI(lt:Int->Int->Bool)(n:Nat)(C0 C:CC):Prop where
 sub:∀x,x∈C.L->x∈C0.L
 out:∀x:Nat,(x:Int)∉C0.L->C.F.u x=C0.F.u x/\C.F.k x=C0.F.k x
 wt:wt n C.F C.L=wt n C0.F C0.L
 nl:∀y p:Nat,y<n->C.F.u y=p->C0.F.u y=p\/((y:Int)∈C0.L/\(p:Int)∈C0.L/\y≠p/\lt y p=false)
 ro:∀y:Nat,(y:Int)∈C0.L->(y:Int)∈C.L\/∃p:Nat,p<n/\C.F.u y=p
def RI.refl(lt:Int->Int->Bool)(n:Nat)(C:CC):RI lt n C C:=⟨λx h=>h,λx _=>⟨rfl,rfl⟩,rfl,λy p _ h=>Α h,λy h=>Α h⟩
def RI.trans{lt:Int->Int->Bool}{n:Nat}{A B C:CC}(h:RI lt n A B)(k:RI lt n B C):RI lt n A C:=
 ⟨λx c=>h.sub x (k.sub x c),λx c=>by
  have a:=h.out x c;have b:=k.out x (λf=>c (h.sub _ f));exact⟨b.1.trans a.1,b.2.trans a.2⟩,k.wt.trans h.wt,λy p d g=>by
  rcases k.nl y p d g with a|⟨a,b,i,j⟩
  .exact h.nl y p d a
  .exact Β ⟨h.sub _ a,h.sub _ b,i,j⟩,λy d=>by
  by_cases e:(y:Int)∈B.L
  .exact k.ro y e
  .rcases h.ro y d with a|⟨p,hp,a⟩
   .exact absurd a e
   .exact Β ⟨p,hp,by rw [(k.out y e).1];exact a⟩⟩
def RI.perm{lt:Int->Int->Bool}{n:Nat}{C D:CC}(hp:D.L.Perm C.L)(b:D.F=C.F):RI lt n C D:=
 ⟨λx a=>hp.mem_iff.1 a,λx _=>by grind,by rw[b];exact Gg hp,λy p _ h=>by grind,λy h=>Α (hp.mem_iff.2 h)⟩
def ZC{lt:Int->Int->Bool}{n k:Nat}{C:CC}(has:∀a b,lt a b=true->lt b a=false)(h:G n (k+1) (k+1) k (k+1) C)(g:C.N=[]\/∃x y,C.N=[x,y]):RI lt n C (ou lt C):=by
 rcases g with g|⟨x,y,g⟩
 .have e:ou lt C=C:=by unfold ou;rw[g]
  rw[e];exact RI.refl _ _ _
 .obtain⟨a,b,rfl,rfl,P,Q,A,R,S,T,U⟩:=NA h g;have e:ou lt C={ C with F:=iL C.F (jY lt a b) (nU lt a b),N:=[(jY lt a b:Int)],q:=C.q+1 }:=by unfold ou;rw[g];simp
  rw[e];obtain⟨c,lo,o,r,d,s,u,i,t,B,v⟩:∃c lo,jY lt a b=c/\nU lt a b=lo/\c<n/\lo<n/\c≠lo/\(C.F.k c).length=k/\(C.F.k lo).length=k/\lt lo c=false/\((c=a/\lo=b)\/(c=b/\lo=a)):=by
   unfold jY nU
   grind
  have f:C.L.Perm ((c:Int)::(lo:Int)::(C.A++(C.B++C.O))):=by
   unfold CC.L
   grind
  have D:(CC.L { C with F:=iL C.F c lo,N:=[(c:Int)],q:=C.q+1 }).Perm ((c:Int)::(C.A++(C.B++C.O))):=by
   unfold CC.L
   grind
  have j:=f.nodup_iff.1 h.nd;rw[Ζ,Ζ] at j;rw[o,r];refine⟨λx L=>f.mem_iff.2 ?_,λx L=>?_,?_,λy p m M=>?_,λy m=>?_⟩
  .grind
  .unfold iL
   grind
  .rw[Gg D,Gg f];have E:∀z,z∈C.A++(C.B++C.O)->dW n (iL C.F c lo) z=dW n C.F z:=λz O=>by
    have w:=h.rt z (f.mem_iff.2 (Λ _ (Λ _ O)));rw[yP n C.F d z ⟨w.1,w.2.1⟩,Γ (λe=>by grind)]
   have H:=Cx E;have I:dW n (iL C.F c lo) (c:Int)=(k:Int)+1:=by rw[yP n C.F d c ω,Δ rfl,fP n C.F d,i]
   have J:dW n C.F (c:Int)=(k:Int):=by rw[fP n C.F d,i]
   have K:dW n C.F (lo:Int)=(k:Int):=by rw[fP n C.F s,t]
   have:∀(F:CF) (x:Int) (l:List Int),wt n F (x::l)=2 ^ (dW n F x).toNat + wt n F l:=λF x l=>by unfold wt;simp
   rw[this,this,this,H,I,J,K];have W:((k:Int)+1).toNat=k+1:=ω
   grind
  .unfold iL at M
   grind
  .rcases ρ.1 (f.mem_iff.1 m) with e|m
   .grind
   .rcases ρ.1 m with e|m
    .refine Β ⟨c,d,?_⟩;unfold iL
     grind
    .grind
def Nu{lt:Int->Int->Bool}{n:Nat}{C0:CC}(has:∀a b,lt a b=true->lt b a=false)(h:G n 0 0 0 0 C0)(hN:C0.N=[]):∀k,RI lt n C0 (ig lt n k C0)
 |0=>RI.refl _ _ _
 |k+1=>by
  obtain⟨g,h1,h2⟩:=Iu (lt:=lt) h hN k;have g1:=Ha g;have g2:=Gd g1;have g3:=FV g2;have t1:=(zn n k (ig lt n k C0)).2;have t2:=(z8 n k (takeA n k (ig lt n k C0))).2;have ev:=Ca (C:=takeB n k (takeA n k (ig lt n k C0))) ω;have r4:=ZC has g3 ev;exact((((Nu has h hN k).trans (RI.perm (tK n k _) (Pj n k _))).trans (RI.perm (sV n k _) (OL n k _))).trans (RI.perm (tJ _) (OP _))).trans r4
def g_ok{lt:Int->Int->Bool}{n:Nat}{d:CC}{dom:Int->Prop}(has:∀a b,lt a b=true->lt b a=false)(u:∀x,x∈d.L->dom x)(h:G n 0 0 0 0 d)(D:d.N=[])(Q:n<=65536)(R:d.q<=900000)(k:Nat):OO dom lt n k (ig lt n k d):=by
 obtain⟨g,E,O⟩:=Iu (lt:=lt) h D k;have K:d.L.length<=n:=uU n _ h.nd (λx j=>by have:=h.rt x j;omega);have P:(ig lt n k d).L.length<=n:=uU n _ g.nd (λx j=>by have:=g.rt x j;omega);have L:(ig lt n k d).L.length=(ig lt n k d).A.length+((ig lt n k d).B.length+((ig lt n k d).N.length+(ig lt n k d).O.length)):=by unfold CC.L;simp
 have p:∀x,x∈(ig lt n k d).L->dW n (ig lt n k d).F x<=n:=λx j=>by
  have M:=g.rt x j;obtain⟨y,rfl⟩:=Int.eq_ofNat_of_zero_le M.1;have A:y<n:=ω;rw[fP _ _ A];have:=g.f.len A;omega
 refine⟨E,λx y i=>?_,ω,ω,λc=>?_⟩
 .have q:=FV (Gd (Ha g));obtain⟨a,b,v,w,l,m,o,F,H,I,J⟩:=NA q i;have f:∀z,z∈(fV (takeB n k (takeA n k (ig lt n k d)))).L->dom z:=λz N=>u z ((Nu has h D k).sub z ((tK n k _).mem_iff.1 ((sV n k _).mem_iff.1 ((tJ _).mem_iff.1 N))));have r:dom (a:Int):=by rw[←v];exact f x (by unfold CC.L;rw[i];simp)
  have s:dom (b:Int):=by rw[←w];exact f y (by unfold CC.L;rw[i];simp)
  refine⟨a,b,v,w,r,s,l,m,o,?_,?_,?_,q.f.len l,q.f.len m⟩
  .unfold BR;rw[Ν ω];simp[F]
  .unfold BR;rw[Ν ω];simp[H]
  .rw[fP _ _ l,fP _ _ m,I,J]
 .rcases c with c|c|c
  .obtain⟨x,t,e⟩:=List.exists_cons_of_ne_nil c;have B:=g.a2 x (by rw[e];simp);have C:=p x (by unfold CC.L;rw[e];simp);omega
  .obtain⟨x,t,e⟩:=List.exists_cons_of_ne_nil c;have B:=g.b2 x (by rw[e];simp);have C:=p x (by unfold CC.L;rw[e];simp);omega
  .obtain⟨x,t,e⟩:=List.exists_cons_of_ne_nil c;have B:=g.n1 x (by rw[e];simp);have C:=p x (by unfold CC.L;rw[e];simp);omega


open Go Go.RowKit

def mq(n:Nat)(F:CF)(l:List Int):Prop:=(∀x,x∈l->0<=x/\x<n/\F.u x.toNat=-1)/\l.Pairwise (λx y=>dW n F x<dW n F y)
def EK(n:Nat)(F:CF)(x:Int):BR n F x=true↔0<=x/\x<n/\F.u x.toNat=-1:=by
 unfold BR
 grind
def yf{l:List Int}{i:Nat}(h:i<l.length):l.getD i 0=l[i]:=by simp[φ,h]
def KV(n:Nat)(S:CS)(l:List Int):Qk n S l=true↔mq n S.f l:=by
 unfold Qk yB rowOk;simp only[abu,aaw];rw[List.all_eq_true];simp only[List.mem_range,Τ,Bool.or_eq_true,beq_iff_eq,Ο];constructor
 .intro h;refine⟨λx m=>?_,?_⟩
  .obtain⟨i,a,rfl⟩:=List.getElem_of_mem m;have:=(h i a).1;rw[yf a] at this;exact(EK n S.f _).1 this
  .rw[List.pairwise_iff_getElem];have b:∀(d i:Nat) (a:i<l.length) (e:i+d+1<l.length),dW n S.f l[i]<dW n S.f l[i+d+1]:=λd=>by
    induction d with
    |zero=>
     grind
    |succ d o=>
     grind
   intro i j a e f;have:=b (j-i-1) i a ω;simpa[show i+(j-i-1)+1=j by omega] using this
 .rintro⟨g,k⟩ i a;refine⟨?_,?_⟩
  .rw[yf a];exact(EK n S.f _).2 (g _ (ϗ a))
  .rcases Nat.eq_zero_or_pos i with c|c
   .exact Α c
   .rw[yf a,yf (show i-1<l.length by omega)];exact Β (Ν ((List.pairwise_iff_getElem.1 k) (i-1) i ω a ω))
def mq.nodup{n:Nat}{F:CF}{l:List Int}(h:mq n F l):l.Nodup:=h.2.imp (λ{a b} c e=>by subst e;omega)
def any_false{A B:List Int}:A.any (λx=>decide (x∈B))=false↔∀x,x∈A->x∉B:=by
 grind
def OY{n:Nat}{F:CF}{A B:List Int}{q:Nat}(f:qD n F)(b:mq n F A)(c:mq n F B)(h:∀x,x∈A->x∉B):G n 0 0 0 0 ⟨F,A,B,[],[],q⟩:=by
 have d:∀x,0<=dW n F x:=λx=>by unfold dW;split<;>omega
 refine⟨f,λx a=>?_,?_,b.2,λx _=>by simpa using d x,c.2,λx _=>by simpa using d x,λx a=>(by cases a),List.Pairwise.nil,λx a=>(by cases a)⟩
 .unfold CC.L at a;simp only[Υ,τ] at a;rcases a with a|a
  .exact b.1 x a
  .exact c.1 x a
 .unfold CC.L;simp only[Υ];rw[θ];exact⟨b.nodup,c.nodup,λx a y g e=>by subst e;exact h x a g⟩
def CC.done(C:CC):Prop:=C.A=[]/\C.B=[]/\C.N=[]
instance (C:CC):Decidable C.done:=by unfold CC.done;exact inferInstance
def step_done{lt:Int->Int->Bool}{n k:Nat}{C:CC}(h:C.done):Kv lt n k C=C:=by
 obtain⟨F,A,B,N,O,q⟩:=C;obtain⟨a,b,c⟩:=h;simp only at a b c;subst a b c
 rfl
def BC{lt:Int->Int->Bool}{n k:Nat}{C0:CC}(h:(ig lt n k C0).done):∀j,ig lt n (k+j) C0=ig lt n k C0
 |0=>rfl
 |j+1=>by
  have ih:=BC h j;rw[Nat.add_succ,ig,ih,step_done h]
def VN{lt:Int->Int->Bool}{n k m:Nat}{a:CC}(b:(ig lt n k a).done)(c:(ig lt n m a).done):ig lt n k a=ig lt n m a:=by
 rcases Nat.le_total k m with h|h
 .have:=BC b (m-k)
  grind
 .have:=BC c (k-m)
  grind
def yj(lt:Int->Int->Bool)(n:Nat)(C0:CC)(F:CF)(O:List Int)(q:Nat):Prop:=∃k,ig lt n k C0=⟨F,[],[],[],O,q⟩
def yj.eq{lt:Int->Int->Bool}{n:Nat}{a:CC}{F:CF}{O:List Int}{q:Nat}(h:yj lt n a F O q){m:Nat}(c:(ig lt n m a).done):ig lt n m a=⟨F,[],[],[],O,q⟩:=by
 obtain⟨k,b⟩:=h;rw[←b];exact VN c (by rw[b];exact⟨rfl,rfl,rfl⟩)
structure FL(O:wS)(w:World)(bt ba lo n:Nat)(S:CS)(q:Nat):Prop where
 f:bu w bt ba lo n S
 l:O.at_ w q
 a:Apart O bt ba n S
 t:bt<w.heap.size
 ok:qD n S.f
def SE(O:wS)(bt ba lo n:Nat)(S:CS)(t v:Value)(A B:List Int)(q:Nat)(w:World)(h:FL O w bt ba lo n S q)
  (ha:lS w (O.wr++ba::S.blk n) t A) (hb:lS w (O.wr++ba::S.blk n) v B) (M:mq n S.f A) (N:mq n S.f B) (P:∀x,x∈A->x∉B) (hq:q<=900000) (y:∀x,x∈A->O.dom x) (z:∀x,x∈B->O.dom x):
  Calls prog 185 #[bt,.iface O.ty (.pointer (some O.p)),t,v] w λe w'=>
   ∃c i X L,e=.returned (.tuple #[i,true])/\FL O w' bt ba lo n c L/\yj O.lt n ⟨S.f,A,B,[],[],q⟩ c.f X L/\G n 0 0 0 0 ⟨S.f,A,B,[],[],q⟩/\bB w' w.heap.size i X/\lS w' (O.wr++ba::c.blk n) i X/\ae (O.wr++ba::S.blk n) w w'/\(∀g,g∈c.blk n->g∈S.blk n\/w.heap.size<=g)/\(∀g,i.ownBlock=some g->g∉c.blk n):=by
 have s:=OY (q:=q) h.ok M N P
 refine (Ru O bt ba lo n S t v A B q w h.f h.l h.a h.t ha hb ((KV n S A).2 M) ((KV n S B).2 N) (any_false.2 P) (g_ok O.asym (λx l=>by
  have e:CC.L ⟨S.f,A,B,[],[],q⟩=A++B:=by unfold CC.L;simp
  rw[e] at l;rcases τ.1 l with l|l
  .exact y x l
  .exact z x l) s rfl h.f.le hq)).mono ?_
 rintro e w' ⟨k,vn,Q,R,i,rfl,b,D,E,H⟩;have gk:=(Iu (lt:=O.lt) s rfl k).1;generalize hC:ig O.lt n k ⟨S.f,A,B,[],[],q⟩=C at *;obtain⟨F,A1,B1,N1,T,U⟩:=C;simp only at D E H;subst D E H;obtain⟨c,I,r,m,W,h5,J⟩:=b.xI;simp only at I;subst I;have SY:=b.old _ b.OT.2;have K:=r.Tf;have o:∀g,g∈c.blk n->g∈S.blk n\/w.heap.size<=g:=λg p=>by
  rcases W g p with d|d
  .rcases τ.1 d with d|d
   .exact absurd (O.sub _ d) (m.blk g p)
   .rcases ρ.1 d with rfl|d
    .have:=(r.pq p).1;omega
    .exact Α d
  .exact Β ω
 refine⟨c,i,T,U,rfl,⟨r,b.les,m,Ψ h.t b.upd.size,gk.f⟩,⟨k,hC⟩,s,b.out.mono ω,?_,b.upd,o,J⟩;obtain⟨a,cap,rfl,Y,Z,h3⟩:=b.out.shape;refine⟨a,cap,rfl,Y,Z,λj u hj=>?_⟩;obtain⟨g,off,rfl,hc⟩:=h3 j u hj;have p:=b.out.lt g rfl;refine⟨g,off,rfl,p.2,λf=>?_,hc⟩;rcases τ.1 f with f|f
 .have:=b.k0 _ (O.sub _ f);omega
 .rcases ρ.1 f with rfl|f
  .omega
  .exact J g rfl f
structure F9(lt:Int->Int->Bool)(n:Nat)(F:CF)(A B:List Int)(q:Nat)(F':CF)(O:List Int)(q':Nat):Prop where
 row:mq n F' O
 ok:qD n F'
 cnt:q'+O.length=q+(A.length+B.length)
 sub:∀x,x∈O->x∈A\/x∈B
 out:∀x:Nat,(x:Int)∉A->(x:Int)∉B->F'.u x=F.u x/\F'.k x=F.k x
 wt:wt n F' O=wt n F A+wt n F B
 nl:∀y p:Nat,y<n->F'.u y=p->F.u y=p\/(((y:Int)∈A\/(y:Int)∈B)/\((p:Int)∈A\/(p:Int)∈B)/\y≠p/\lt y p=false)
 ro:∀y:Nat,((y:Int)∈A\/(y:Int)∈B)->(y:Int)∈O\/∃p:Nat,p<n/\F'.u y=p
def carried{lt:Int->Int->Bool}(has:∀a b,lt a b=true->lt b a=false){n:Nat}{F:CF}{A B:List Int}{q:Nat}{F':CF}{O:List Int}{i:Nat}(g:G n 0 0 0 0 ⟨F,A,B,[],[],q⟩)(h:yj lt n ⟨F,A,B,[],[],q⟩ F' O i):F9 lt n F A B q F' O i:=by
 obtain⟨k,j⟩:=h;have g1:=Iu (lt:=lt) g rfl k;have r:=Nu has g rfl k;rw[j] at g1 r;obtain⟨g1,_,g2⟩:=g1;have d:CC.L ⟨F',[],[],[],O,i⟩=O:=by unfold CC.L;simp
 have c:CC.L ⟨F,A,B,[],[],q⟩=A++B:=by unfold CC.L;simp
 have s:=r.sub;have o:=r.out;have w:=r.wt;rw[d] at s w g2;rw[c] at s o w g2;refine⟨⟨λx e=>g1.rt x (by rw[d];exact e),g1.o1⟩,g1.f,by simpa using g2,λx e=>by simpa using s x e,λx l m=>o x (by simp;exact⟨l,m⟩),?_,λy p f t=>by have:=r.nl y p f t;rw[c] at this;simpa using this,λy f=>by have:=r.ro y (by rw[c];simpa using f);rw[d] at this;exact this⟩;rw[w];unfold wt;simp
end Go.Proofs.YtnpdakpagnpanaaGreat
namespace Go.Proofs.YtnpdakpagnpanaaGreat
open Tryz
def Q4(l:List Int)(x y:Int):List Int:=l.map (λz=>if z=x then y else z)
def qD.split{n:Nat}{S:CS}(h:qD n S.f){x:Nat}(r:x<n)(k:S.u x=-1):qD n (iE S x).f:=by
 have nx:∀z,z<n->(x:Int)∉S.k z:=λz a b=>by
  have:=(h.xP z a _ b).2.2;rw[π] at this;have e:S.f.u x=S.u x:=rfl;omega
 have q:∀y z,y<n->z<n->(y:Int)∈S.k z->S.u y=z:=λy z g a b=>by
  have:=(h.xP z a _ b).2.2;rwa[π] at this
 refine⟨λz a y g=>?_,λz a=>?_,λy g=>?_,λz a i w l=>?_⟩
 .show 0<=y/\y<n/\(if((y.toNat:Nat):Int)∈S.k x then(-1:Int) else S.u y.toNat)=z
  have d:y∈(if z=x then([]:List Int) else S.k z):=g
  by_cases e:z=x
  .grind
  .rw[Γ e] at d;obtain⟨f,j,o⟩:=h.xP z a y d
   grind
 .show(if z=x then([]:List Int) else S.k z).Nodup
  split
  .exact Ϡ
  .exact h.nd z a
 .show(if(y:Int)∈S.k x then(-1:Int) else S.u y)=-1\/∃p:Nat,p<n/\(if(y:Int)∈S.k x then(-1:Int) else S.u y)=p/\(y:Int)∈(if p=x then([]:List Int) else S.k p)
  by_cases b:(y:Int)∈S.k x
  .grind
  .rw[Γ b];rcases h.up y g with f|⟨p,hp,f,j⟩
   .exact Α f
   .refine Β ⟨p,hp,f,?_⟩;rw[Γ (λe=>by subst e;exact b j)];exact j
 .have c:(if z=x then([]:List Int) else S.k z)[i]?=some w:=l
  show(if w.toNat=x then([]:List Int) else S.k w.toNat).length=i
  by_cases e:z=x
  .grind
  .rw[Γ e] at c;have b:=Η c;have k:=h.xP z a w b;rw[Γ (λm=>nx z a (by rw[←m,show((w.toNat:Nat):Int)=w by omega];exact b))];exact h.zS z a i w c
def Ba{l:List Int}(h:l.Nodup)(x y:Int)(f:x∈l):Q4 l x y=setAt l x y:=by
 obtain⟨i,k,c,a⟩:=yT l x f;unfold Q4 setAt;rw[c,π];apply List.ext_getElem σ;intro j b g;rw[List.getElem_map,List.getElem_set];have d:l[i]=x:=(List.getElem?_eq_some_iff.1 a).2
 by_cases e:i=j
 .grind
 .rw[Γ e,Γ (λn=>e ?_)];have m:j<l.length:=by simpa using b
  have hp:=List.pairwise_iff_getElem.1 (List.nodup_iff_pairwise_ne.1 h)
  grind
def rV{l:List Int}(h:l.Nodup){x y z:Int}(a:x∈l):z∈setAt l x y↔z=y\/(z∈l/\z≠x):=by
 rw[←Ba h x y a];unfold Q4
 grind
def JO{l:List Int}(h:l.Nodup){x y z:Int}(b:x∈l){i:Nat}(a:(setAt l x y)[i]?=some z):(l[i]?=some x/\z=y)\/(l[i]?=some z/\z≠x):=by
 rw[←Ba h x y b] at a;unfold Q4 at a
 grind
def Ah{l:List Int}(h:l.Nodup){x y:Int}(d:x∈l)(i:y∉l):(setAt l x y).Nodup:=by
 rw[←Ba h x y d];unfold Q4;rw[List.nodup_iff_pairwise_ne,List.pairwise_map];refine(List.nodup_iff_pairwise_ne.1 h).imp_of_mem (λ{a b} e f c=>?_)
 by_cases g:a=x
 .grind
 .grind
def qD.lift{n:Nat}{S:CS}(h:qD n S.f){x p:Nat}{a:Int}(s:BI n S x p a):qD n (iI S x p a).f:=by
 have o:=s.hx;have hp:=s.hp;have t:=s.ne;have A:∀y z:Nat,y<n->z<n->(y:Int)∈S.k z->S.u y=z:=λy z j f c=>by
  have:=(h.xP z f _ c).2.2;rwa[π] at this
 have F:∀z,z<n->∀w,w∈S.k z->∃y:Nat,w=y/\y<n/\S.u y=z:=λz f w d=>by
  obtain⟨b,g,B⟩:=h.xP z f w d
  grind
 have X:∀y z:Nat,z<n->(y:Int)∈S.k z->(S.k y).length<(S.k z).length:=λy z f c=>by
  obtain⟨i,J,he⟩:=List.getElem_of_mem c;have M:(S.k z)[i]?=some (y:Int):=by rw[ε J,he]
  have:=h.zS z f i (y:Int) M;rw[π] at this;have aeZ:(S.k y).length=i:=this
  grind
 have Y:(p:Int)∉S.k p:=h.self hp;have Z:(p:Int)∉S.k x:=λc=>by
  have b:=X p x o c;have g:=X x p hp s.mem;omega
 have ux:S.u x=p:=s.up;have up:S.u p=a:=s.ab;have N:=h.nd p hp;have u:∀q:Nat,(q:Int)=a->q<n/\q≠x/\q≠p/\(p:Int)∈S.k q:=λq hq=>by
  rcases s.top with e|⟨q',e,b,g,B,I⟩
  .omega
  .obtain rfl:q=q':=ω;exact⟨b,g,B,I⟩
 have K:∀z:Nat,(iI S x p a).f.k z=if z=x then setAt (S.k p) x p else if z=p then S.k x else if(z:Int)=a then setAt (S.k z) p x else S.k z:=λz=>rfl;have U:∀z:Nat,(iI S x p a).f.u z=if z=x then a else if(z:Int)∈S.k x then(p:Int) else if(z:Int)∈setAt (S.k p) x p then(x:Int) else S.u z:=λz=>rfl;have G:∀z:Int,z∈setAt (S.k p) x p↔z=p\/(z∈S.k p/\z≠x):=λz=>rV N s.mem;have D:∀y:Nat,((iI S x p a).f.k y).length=if y=x then(S.k p).length else if y=p then(S.k x).length else(S.k y).length:=λy=>by
  rw[K]
  split
  .rw[lC]
  .split
   .rfl
   .split
    .rw[lC]
    .rfl
 have U1:∀y:Nat,y<n->(y:Int)∈S.k x->(iI S x p a).f.u y=p:=λy j c=>by
  rw[U,Γ (λe=>by subst e;exact h.self o c),Δ c]
 have O:∀y:Nat,y<n->(y:Int)∈setAt (S.k p) x p->(iI S x p a).f.u y=x:=λy j c=>by
  rcases(G y).1 c with e|⟨b,g⟩
  .obtain rfl:y=p:=ω;rw[U,Γ (Ne.symm t),Γ Z,Δ c]
  .rw[U,Γ (λe=>g (by rw[e])),Γ (λk=>by have:=A y x j o k;have:=A y p j hp b;omega),Δ c]
 have U3:∀y:Nat,y<n->y≠x->y≠p->S.u y≠x->S.u y≠p->(iI S x p a).f.u y=S.u y:=λy j b g B I=>by
  rw [U,Γ b,Γ (λc=>B (A y x j o c)),Γ (λc=>by
   rcases(G y).1 c with e|⟨h5,_⟩
   .omega
   .exact I (A y p j hp h5))]
 refine⟨λz f w d=>?_,λz f=>?_,λy j=>?_,λz f i w d=>?_⟩
 .rw[K] at d
  split at d
  .rename_i e;subst e
   have H:=d;rcases(G w).1 d with rfl|⟨b,g⟩
   .exact⟨ω,ω,by rw[π];exact O p hp H⟩
   .obtain⟨y,rfl,j,_⟩:=F p hp w b;exact⟨ω,ω,by rw[π];exact O y j H⟩
  .rename_i E
   split at d
   .rename_i e;subst e
    obtain⟨y,rfl,j,_⟩:=F x o w d;exact⟨ω,ω,by rw[π];exact U1 y j d⟩
   .rename_i T
    split at d
    .rename_i e
     obtain⟨_,_,_,c⟩:=u z e;rcases(rV (h.nd z f) c).1 d with rfl|⟨b,g⟩
     .exact⟨ω,ω,by rw[π,U,Δ rfl];exact e.symm⟩
     .obtain⟨y,rfl,j,L⟩:=F z f w b;have l:y≠x:=λe=>by subst e;omega
      exact⟨ω,ω,by rw[π,U3 y j l (λe=>g (by rw[e])) ω ω];exact L⟩
    .rename_i W
     obtain⟨y,rfl,j,L⟩:=F z f w d;have l:y≠x:=λe=>by subst e;omega
     have P:y≠p:=λe=>by subst e;omega
     exact⟨ω,ω,by rw[π,U3 y j l P ω ω];exact L⟩
 .rw[K]
  split
  .exact Ah N s.mem Y
  .split
   .exact h.nd x o
   .split
    .rename_i e
     obtain⟨b,g,B,c⟩:=u z e;exact Ah (h.nd z f) c (λk=>by have:=A x z o f k;omega)
    .exact h.nd z f
 .by_cases l:y=x
  .subst l;rw[U,Δ rfl];rcases s.top with e|⟨q,e,b,g,B,I⟩
   .exact Α e
   .refine Β ⟨q,b,e,?_⟩;rw[K,Γ g,Γ B,Δ e.symm];exact(rV (h.nd q b) I).2 (Α rfl)
  .by_cases v:(y:Int)∈S.k x
   .refine Β ⟨p,hp,U1 y j v,?_⟩;rw[K,Γ (Ne.symm t),Δ rfl];exact v
   .by_cases k:(y:Int)∈setAt (S.k p) x p
    .refine Β ⟨x,o,O y j k,?_⟩;rw[K,Δ rfl];exact k
    .have e:(iI S x p a).f.u y=S.u y:=by rw[U,Γ l,Γ v,Γ k]
     rw[e];rcases h.up y j with b|⟨r,hr,b,g⟩
     .exact Α b
     .refine Β ⟨r,hr,b,?_⟩;have Q:r≠x:=λe=>by subst e;exact v g
      have R:r≠p:=λe=>by subst e;exact k ((G y).2 (Β ⟨g,λe=>l ω⟩))
      rw[K,Γ Q,Γ R]
      split
      .rename_i e
       obtain⟨_,_,_,c⟩:=u r e;exact(rV (h.nd r hr) c).2 (Β ⟨g,λC=>k ((G y).2 (Α C))⟩)
      .exact g
 .have m:∀(z:Nat) (w:Int),z<n->z≠x->(S.k z)[i]?=some w->w≠p->w≠x->((iI S x p a).f.k w.toNat).length=i:=λz w f _ d b g=>by
   obtain⟨y,rfl,j,_⟩:=F z f w (Η d);rw[π,D,Γ (λe=>g (by rw[e])),Γ (λe=>b (by rw[e]))];have:=h.zS z f i (y:Int) d;rwa[π] at this
  have xi:∀i,(S.k p)[i]?=some (x:Int)->(S.k x).length=i:=λi J=>by
   have:=h.zS p hp i (x:Int) J;rwa[π] at this
  rw[K] at d
  split at d
  .rename_i e;subst e
   rcases JO N s.mem d with⟨b,rfl⟩|⟨b,g⟩
   .rw[π,D,Γ (Ne.symm t),Δ rfl];exact xi i b
   .exact m p w hp (Ne.symm t) b (λe=>Y (by rw[←e];exact Η b)) g
  .rename_i E
   split at d
   .rename_i e;subst e
    have c:=Η d;obtain⟨y,rfl,j,_⟩:=F x o w c;rw[π,D,Γ (λe=>by subst e;exact h.self o c),Γ (λe=>by subst e;exact Z c)];have:=h.zS x o i (y:Int) d;rwa[π] at this
   .rename_i T
    split at d
    .rename_i e
     obtain⟨_,_,_,c⟩:=u z e;rcases JO (h.nd z f) c d with⟨b,rfl⟩|⟨b,g⟩
     .rw[π,D,Δ rfl];have:=h.zS z f i (p:Int) b;rwa[π] at this
     .exact m z w f E b g (λC=>by have:=A x z o f (by rw[←C];exact Η b);omega)
    .rename_i W
     have c:=Η d;exact m z w f E d (λC=>by have:=A p z hp f (by rw[←C];exact c);omega) (λC=>by have:=A x z o f (by rw[←C];exact c);omega)
def Pe{n:Nat}{S:CS}(h:qD n S.f){x:Nat}(f:x<n){p:Nat}(hp:p<n)(t:S.u x=p)(a:(x:Int)∈S.k p):BI n S x p (S.u p):=by
 have g:∀y z:Nat,z<n->(y:Int)∈S.k z->(S.k y).length<(S.k z).length:=λy z s a=>by
  obtain⟨i,m,o⟩:=List.getElem_of_mem a;have b:(S.k z)[i]?=some (y:Int):=by rw[ε m,o]
  have:=h.zS z s i (y:Int) b;rw[π] at this;have r:(S.k y).length=i:=this;omega
 refine⟨f,hp,λe=>by subst e;exact h.self f a,t,rfl,a,λk c=>by have:=h.xP x f k c;omega,λk c=>by have:=h.xP p hp k c;omega,?_⟩;rcases h.up p hp with d|⟨q,j,d,l⟩
 .exact Α d
 .have u:=g x p hp a;have v:=g p q j l;exact Β ⟨q,d,j,λe=>by subst e;omega,λe=>by subst e;omega,l⟩
def Uh(S:CS)(x p:Nat)(a:Int)(y:Nat):((iI S x p a).k y).length=if y=x then(S.k p).length else if y=p then(S.k x).length else(S.k y).length:=by
 show(if y=x then setAt (S.k p) x p else if y=p then S.k x else if(y:Int)=a then setAt (S.k y) p x else S.k y).length=_
 split
 .rw[lC]
 .split
  .rfl
  .split
   .rw[lC]
   .rfl
structure FH(n:Nat)(F:CF)(bZ:Nat->Int)(L:Nat->Nat->Prop):Prop where
 f:qD n F
 home:∀y p:Nat,y<n->F.u y=p->bZ y=bZ p/\0<bZ y
 ord:∀y p:Nat,y<n->F.u y=p->L p y
 alone:∀y:Nat,y<n->¬0<bZ y->F.u y=-1/\F.k y=[]
def qD.above{n:Nat}{F:CF}(h:qD n F){y p:Nat}(b:y<n)(e:F.u y=p):p<n/\(y:Int)∈F.k p:=by
 rcases h.up y b with a|⟨q,c,a,d⟩
 .omega
 .grind
def qD.below{n:Nat}{F:CF}(h:qD n F){p:Nat}(hp:p<n){z:Int}(b:z∈F.k p):∃y:Nat,z=y/\y<n/\F.u y=p/\(F.k y).length<(F.k p).length:=by
 obtain⟨c,e,a⟩:=h.xP p hp z b;obtain⟨i,f,g⟩:=List.getElem_of_mem b;have d:=h.zS p hp i z (by grind);obtain⟨y,rfl⟩:=Int.eq_ofNat_of_zero_le c;rw[π] at a d;exact⟨y,rfl,ω,a,ω⟩
def qD.P7{n:Nat}{F:CF}(h:qD n F){y p:Nat}(c:y<n)(d:F.u y=p):(F.k y).length<(F.k p).length:=by
 obtain⟨a,b⟩:=h.above c d;obtain⟨z,e,_,_,f⟩:=h.below a b
 grind
def mq.ext{n:Nat}{F F':CF}{l:List Int}(h:mq n F l)(e:∀x,x∈l->F'.u x.toNat=F.u x.toNat/\F'.k x.toNat=F.k x.toNat):mq n F' l:=by
 refine⟨λx d=>?_,h.2.imp_of_mem (λ{a b} f g c=>?_)⟩
 .have:=h.1 x d
  grind
 .unfold dW at c ⊢
  grind
def Zo{n:Nat}{F F':CF}{x:Int}(e:F'.k x.toNat=F.k x.toNat):dW n F' x=dW n F x:=by unfold dW;rw[e]
def Vk{n:Nat}{F:CF}{bZ:Nat->Int}{L:Nat->Nat->Prop}{lt:Int->Int->Bool}{h:Int}{l o:List Int}{q:Nat}{F':CF}{O:List Int}{w:Nat}(H:FH n F bZ L)
  (A:∀y p:Nat,y<n->p<n->bZ y=h->bZ p=h->y≠p->lt y p=false->L p y) (B:1<=h)
  (m:∀y:Nat,y<n/\F.u y=-1/\bZ y=h↔(y:Int)∈l\/(y:Int)∈o) (C:F9 lt n F l o q F' O w):
  FH n F' bZ L/\(∀y:Nat,(y:Int)∈O↔y<n/\F'.u y=-1/\bZ y=h)/\(∀y:Nat,y<n->bZ y≠h->F'.u y=F.u y/\F'.k y=F.k y):=by
 have i:∀y:Nat,y<n->bZ y≠h->F'.u y=F.u y/\F'.k y=F.k y:=λy b g=>C.out y (λd=>g ((m y).2 (Α d)).2.2) (λd=>g ((m y).2 (Β d)).2.2);have j:∀y p:Nat,y<n->F'.u y=p->F.u y=p\/(y<n/\p<n/\bZ y=h/\bZ p=h/\y≠p/\lt y p=false):=λy p b f=>by
  rcases C.nl y p b f with e|⟨s,t,u,v⟩
  .exact Α e
  .grind
 refine⟨⟨C.ok,λy p b f=>?_,λy p b f=>?_,λy b g=>?_⟩,λy=>⟨λd=>?_,λd=>?_⟩,i⟩
 .rcases j y p b f with e|⟨_,_,s,t,_,_⟩
  .exact H.home y p b e
  .grind
 .rcases j y p b f with e|⟨x,z,s,t,u,v⟩
  .exact H.ord y p b e
  .grind
 .have:=i y b ω;rw[this.1,this.2];exact H.alone y b g
 .have r:=C.row.1 _ d;have a:=(m y).2 (C.sub _ d)
  grind
 .obtain⟨b,f,g⟩:=d
  by_cases c:(y:Int)∈l\/(y:Int)∈o
  .rcases C.ro y c with k|⟨p,hp,k⟩
   .exact k
   .omega
  .have k:=C.out y (λh=>c (Α h)) (λh=>c (Β h));exact absurd ((m y).1 ⟨b,by grind,g⟩) c
structure BG where
 F:CF
 R:Nat->List Int
structure RH(n:Nat)(G:BG)(bZ:Nat->Int):Prop where
 row:∀h,mq n G.F (G.R h)
 mem:∀h y:Nat,(y:Int)∈G.R h↔1<=h/\y<n/\G.F.u y=-1/\bZ y=h
def BG.none:BG:=⟨CS.none.f,λ_=>[]⟩
def dm(R:Nat->List Int)(h:Nat)(l:List Int):Nat->List Int:=λk=>if k=h then l else R k
def kE(lt:Int->Int->Bool)(n:Nat)(F:CF)(A B:List Int):CC:=ig lt n (n+1) ⟨F,A,B,[],[],0⟩
def IJ{lt:Int->Int->Bool}{n:Nat}{F:CF}{A B:List Int}(g:G n 0 0 0 0 ⟨F,A,B,[],[],0⟩)(has:∀a b,lt a b=true->lt b a=false)(d:n<=65536):(kE lt n F A B).done:=by
 have r:=g_ok (dom:=λ_=>True) has (λx e=>trivial) g rfl d (Nat.zero_le _) (n+1);unfold kE CC.done;refine⟨?_,?_,?_⟩
 all_goals
  apply Ϙ;intro c;have:=r.ends (by grind);omega
def abA{lt:Int->Int->Bool}{n:Nat}{F:CF}{A B:List Int}{F':CF}{O:List Int}{q:Nat}(g:G n 0 0 0 0 ⟨F,A,B,[],[],0⟩)(has:∀a b,lt a b=true->lt b a=false)(c:n<=65536)(h:yj lt n ⟨F,A,B,[],[],0⟩ F' O q):
  (kE lt n F A B).F=F'/\(kE lt n F A B).O=O/\(kE lt n F A B).q=q:=by
 have:=h.eq (m:=n+1) (IJ g has c);unfold kE
 grind
def ab8{lt:Int->Int->Bool}{n:Nat}{F:CF}{A B:List Int}(g:G n 0 0 0 0 ⟨F,A,B,[],[],0⟩)(has:∀a b,lt a b=true->lt b a=false)(c:n<=65536):F9 lt n F A B 0 (kE lt n F A B).F (kE lt n F A B).O (kE lt n F A B).q:=by
 refine carried has g ⟨n+1,?_⟩;obtain⟨d,e,f⟩:=IJ g has c;unfold kE at *;generalize ig lt n (n+1) ⟨F,A,B,[],[],0⟩=C at *;obtain⟨h,i,j,k,l,m⟩:=C
 grind
def xG(lt:Int->Int->Bool)(n h:Nat)(l:List Int)(G:BG):BG:=⟨(kE lt n G.F (G.R h) l).F,dm G.R h (kE lt n G.F (G.R h) l).O⟩
def zQ{n:Nat}{G:BG}{bZ:Nat->Int}{L:Nat->Nat->Prop}{lt:Int->Int->Bool}{h:Nat}{l:List Int}(H:FH n G.F bZ L)(o:n<=65536)(has:∀a b,lt a b=true->lt b a=false)
  (r:∀y p:Nat,y<n->p<n->bZ y=h->bZ p=h->y≠p->lt y p=false->L p y) (z:1<=h)
  (c:∀k,mq n G.F (G.R k)) (i:∀k y:Nat,k≠h->((y:Int)∈G.R k↔1<=k/\y<n/\G.F.u y=-1/\bZ y=k))
  (m:∀y:Nat,y<n/\G.F.u y=-1/\bZ y=h↔(y:Int)∈G.R h\/(y:Int)∈l) (s:mq n G.F l) (t:∀x,x∈G.R h->x∉l):
  FH n (xG lt n h l G).F bZ L/\RH n (xG lt n h l G) bZ/\(∀k,wt n (xG lt n h l G).F ((xG lt n h l G).R k)=if k=h then wt n G.F (G.R h)+wt n G.F l else wt n G.F (G.R k))/\
   (kE lt n G.F (G.R h) l).q+((xG lt n h l G).R h).length=(G.R h).length+l.length:=by
 have g:=OY (q:=0) H.f (c h) s t;have C:=ab8 g has o;obtain⟨j,u,v⟩:=Vk H r ω m C;have d:∀k:Nat,k≠h->∀x,x∈G.R k->(kE lt n G.F (G.R h) l).F.u x.toNat=G.F.u x.toNat/\(kE lt n G.F (G.R h) l).F.k x.toNat=G.F.k x.toNat:=λk e x f=>by
  have w:=(c k).1 x f
  grind
 unfold xG;refine⟨j,⟨λk=>?_,λk y=>?_⟩,λk=>?_,?_⟩
 .simp only[dm]
  split
  .exact C.row
  .rename_i e
   exact(c k).ext (d k e)
 .simp only[dm]
  grind
 .simp only[dm]
  split
  .exact C.wt
  .rename_i e
   exact Cx (λx f=>Zo (d k e x f).2)
 .simp only[dm,if_true];have:=C.cnt;omega
def Oh:∀d:Nat,((List.range d).map (λi=>2 ^ i)).sum+1=2 ^ d
 |0=>rfl
 |d+1=>by
  have ih:=Oh d;rw[List.range_succ,List.map_append,List.sum_append,Nat.pow_succ];simp only[List.map_cons,List.map_nil,List.sum_cons,List.sum_nil];omega
def fT(F:CF)(x:Nat):CF:=⟨λy=>if y=x then[] else F.k y,λy=>if(y:Int)∈F.k x then -1 else F.u y⟩
def AO(S:CS)(x:Nat):(iE S x).f=fT S.f x:=rfl
def Zd{n:Nat}{F:CF}(b:qD n F){x:Nat}(c:x<n){F':CF}(e:∀z,z∈F.k x->dW n F' z=dW n F z):wt n F' (F.k x)+1=2 ^ (F.k x).length:=by
 rw[←Oh]
 congr 1
 rw[Cx e];unfold wt
 congr 1
 apply List.ext_getElem σ;intro i f g;rw[List.getElem_map,List.getElem_map,List.getElem_range];have a:i<(F.k x).length:=by grind
 have d:(F.k x)[i]∈F.k x:=ϗ a;have h:=b.zS x c i _ (ε a);have j:=b.xP x c _ d;unfold dW
 grind
def Uz{n:Nat}{F:CF}(b:qD n F){x:Nat}(c:x<n){F':CF}(e:∀z,z∈F.k x->dW n F' z=dW n F z)(u:∀z,z∈F.k x->F'.u z.toNat=-1):mq n F' (F.k x):=by
 refine⟨λz f=>⟨(b.xP x c z f).1,(b.xP x c z f).2.1,u z f⟩,?_⟩;rw[List.pairwise_iff_getElem];intro i j a k h;have d:∀i (a:i<(F.k x).length),dW n F' (F.k x)[i]=i:=λi a=>by
  have g:(F.k x)[i]∈F.k x:=ϗ a;have l:=b.zS x c i _ (ε a);have m:=b.xP x c _ g;rw[e _ g];unfold dW
  grind
 grind
def qD.Wt{n:Nat}{F:CF}(h:qD n F){x:Nat}(a:x<n)(b:F.u x=-1):qD n (fT F x):=by
 have:=qD.split (n:=n) (S:=⟨λ_=>.slice none 0 0,F.k,F.u⟩) h a b;exact this
structure CZ(A:NS)(G:BG):Prop where
 fh:FH A.cs.length G.F (λy=>(A.c y).i) (dA A)
 rh:RH A.cs.length G (λy=>(A.c y).i)
 w:∀h:Nat,1<=h->wt A.cs.length G.F (G.R h)=cZ A h
structure Hu(A:NS)(G:BG)(x:Nat):Prop where
 fh:FH A.cs.length G.F (λy=>(A.c y).i) (λp y=>y≠x->p≠x->dA A p y)
 two:∀p c:Nat,c<A.cs.length->G.F.u x=p->G.F.u c=x->dA A p c
 rh:RH A.cs.length G (λy=>(A.c y).i)
 w:∀h:Nat,1<=h->wt A.cs.length G.F (G.R h)=cZ A h
def CZ.x{A:NS}{G:BG}(h:CZ A G){x:Nat}(g:x<A.cs.length):Hu A G x:=
 ⟨⟨h.fh.f,h.fh.home,λy p a b _ _=>h.fh.ord y p a b,h.fh.alone⟩,λp c d e f=>dH (h.fh.ord x p g e) (h.fh.ord c x d f),h.rh,h.w⟩
def vF(F:CF)(x p:Nat)(above:Int):CF:=
  ⟨λy=>if y=x then setAt (F.k p) x p else if y=p then F.k x else if (y:Int)=above then setAt (F.k y) p x else F.k y,
   λy=>if y=x then above else if (y:Int)∈F.k x then p else if (y:Int)∈setAt (F.k p) x p then x else F.u y⟩
def aaU(S:CS)(x p:Nat)(a:Int):(iI S x p a).f=vF S.f x p a:=rfl
def Ma(x p:Nat)(above:Int)(z:Int):Int:=if z=p/\above=-1 then(x:Int) else z
def tX(G:BG)(x p:Nat):BG:=⟨vF G.F x p (G.F.u p),λk=>(G.R k).map (Ma x p (G.F.u p))⟩
section
variable{n:Nat}{F:CF}
def Tx(h:qD n F){x p:Nat}(a:x<n)(b:F.u x=p):BI n ⟨λ_=>.slice none 0 0,F.k,F.u⟩ x p (F.u p):=by
 obtain⟨hp,c⟩:=h.above a b;exact Pe (S:=⟨λ_=>.slice none 0 0,F.k,F.u⟩) h a hp b c
def UR(h:qD n F){x p:Nat}(a:x<n)(b:F.u x=p):qD n (vF F x p (F.u p)):=
 qD.lift (S:=⟨λ_=>.slice none 0 0,F.k,F.u⟩) h (Tx h a b)
def wL(x p:Nat)(a:Int)(y:Nat):((vF F x p a).k y).length=if y=x then(F.k p).length else if y=p then(F.k x).length else(F.k y).length:=
 Uh ⟨λ_=>.slice none 0 0,F.k,F.u⟩ x p a y
def yJ(h:qD n F){x y:Nat}(c:x<n)(d:y<n):(y:Int)∈F.k x↔F.u y=x:=by
 constructor
 .intro a;obtain⟨z,e,_,f,_⟩:=h.below c a
  grind
 .intro b;exact(h.above d b).2
def GA(h:qD n F){x p:Nat}(c:x<n)(g:F.u x=p){y:Nat}(d:y<n):
  (vF F x p (F.u p)).u y=if y=x then F.u p else if F.u y=x then(p:Int) else if y=p\/F.u y=p then(x:Int) else F.u y:=by
 obtain⟨hp,f⟩:=h.above c g
 show(if y=x then F.u p else if(y:Int)∈F.k x then(p:Int) else if(y:Int)∈setAt (F.k p) x p then(x:Int) else F.u y)=_
 by_cases e:y=x
 .grind
 .rw[Γ e,Γ e]
  by_cases a:F.u y=x
  .rw[Δ ((yJ h c d).2 a),Δ a]
  .rw[Γ (λb=>a ((yJ h c d).1 b)),Γ a];have i:(y:Int)∈setAt (F.k p) x p↔(y=p\/F.u y=p):=by
    rw[rV (h.nd p hp) f,yJ h hp d]
    grind
   grind
def vO(h:qD n F){x p:Nat}(a:x<n)(b:F.u x=p){y r:Nat}(c:y<n)(d:(vF F x p (F.u p)).u y=r):
  (y=x/\F.u p=r)\/(y≠x/\F.u y=x/\r=p)\/(y=p/\r=x)\/(y≠x/\y≠p/\F.u y=p/\r=x)\/(y≠x/\y≠p/\F.u y=r/\r≠x/\r≠p):=by
 rw[GA h a b c] at d
 by_cases e:y=x
 .grind
 .grind
def tu(h:qD n F){x p:Nat}(a:x<n)(b:F.u x=p){y:Nat}(c:y<n):(vF F x p (F.u p)).u y=-1↔(y=x/\F.u p=-1)\/(y≠x/\y≠p/\F.u y=-1):=by
 rw[GA h a b c]
 grind
end
section
variable{A:NS}{G:BG}{x p:Nat}
def Cv(h:Hu A G x)(a:x<A.cs.length)(g:G.F.u x=p){k:Nat}{z:Int}(m:z∈G.R k):
  0<=Ma x p (G.F.u p) z/\Ma x p (G.F.u p) z<A.cs.length/\(tX G x p).F.u (Ma x p (G.F.u p) z).toNat=-1/\dW A.cs.length (tX G x p).F (Ma x p (G.F.u p) z)=dW A.cs.length G.F z/\(A.c (Ma x p (G.F.u p) z).toNat).i=(A.c z.toNat).i:=by
 obtain⟨hp,j⟩:=h.fh.f.above a g;have l:p≠x:=λe=>by subst e;exact h.fh.f.self a j
 have d:=(h.rh.row k).1 z m;obtain⟨y,rfl⟩:=Int.eq_ofNat_of_zero_le d.1;rw[π] at d;have f:y<A.cs.length:=ω;unfold Ma
 by_cases e:(y:Int)=p/\G.F.u p=-1
 .rw[Δ e,π,π];obtain rfl:y=p:=ω;refine⟨ω,ω,(tu h.fh.f a g a).2 (Α ⟨rfl,e.2⟩),?_,(h.fh.home x y a g).1⟩;rw[fP _ _ a,fP _ _ f]
  show(((vF G.F x y (G.F.u y)).k x).length:Int)=_
  rw[wL,Δ rfl]
 .rw[Γ e,π];have b:y≠p:=λi=>by subst i;exact e ⟨rfl,d.2.2⟩
  have c:y≠x:=λi=>by subst i;omega
  refine⟨ω,ω,(tu h.fh.f a g f).2 (Β ⟨c,b,d.2.2⟩),?_,rfl⟩;rw[fP _ _ f,fP _ _ f]
  show(((vF G.F x p (G.F.u p)).k y).length:Int)=_
  rw[wL,Γ c,Γ b]
def Dg(h:Hu A G x)(f:x<A.cs.length)(g:G.F.u x=p):Hu A (tX G x p) x:=by
 obtain⟨hp,L⟩:=h.fh.f.above f g;have u:p≠x:=λe=>by subst e;exact h.fh.f.self f L
 have C:=h.fh.home x p f g;have D:∀q:Nat,G.F.u p=q->q≠x:=λq M e=>by
  have Q:=h.fh.f.P7 f g;have R:=h.fh.f.P7 hp M;subst e;omega
 refine⟨⟨UR h.fh.f f g,λy r i s=>?_,λy r i s j n=>?_,λy i t=>?_⟩,λq c K w d=>?_,⟨λk=>⟨λz E=>?_,?_⟩,λk y=>⟨λo=>?_,λo=>?_⟩⟩,λk N=>?_⟩
 .rcases vO h.fh.f f g i s with⟨e,d⟩|⟨_,d,e⟩|⟨e,e2⟩|⟨_,_,d,e⟩|⟨_,_,d,_,_⟩
  .subst e;have:=h.fh.home p r hp d
   grind
  .subst e;have:=h.fh.home y x i d
   grind
  .grind
  .subst e;have:=h.fh.home y p i d
   grind
  .exact h.fh.home y r i d
 .rcases vO h.fh.f f g i s with⟨e,d⟩|⟨_,d,e⟩|⟨e,e2⟩|⟨_,_,d,e⟩|⟨_,_,d,_,_⟩
  .exact absurd e j
  .subst e;exact h.two r y i g d
  .exact absurd e2 n
  .exact absurd e n
  .exact h.fh.ord y r i d j n
 .have I:=h.fh.alone y i t;have j:y≠x:=λe=>by subst e;exact t C.2
  have m:y≠p:=λe=>by subst e;exact t (by grind)
  refine⟨(tu h.fh.f f g i).2 (Β ⟨j,m,I.1⟩),?_⟩;have:((vF G.F x p (G.F.u p)).k y).length=0:=by rw[wL,Γ j,Γ m,I.2];rfl
  exact ϙ this
 .have J:G.F.u p=q:=by
   have:=GA h.fh.f f g f;rw[Δ rfl] at this;rw[←this];exact w
  have v:=h.fh.ord p q hp J u (D q J);rcases vO h.fh.f f g K d with⟨e,h4⟩|⟨_,h4,e⟩|⟨e,e2⟩|⟨e3,_,h4,e⟩|⟨_,_,h4,e3,_⟩
  .grind
  .grind
  .subst e;exact v
  .exact dH v (h.fh.ord c p K h4 e3 u)
  .exact absurd rfl e3
 .obtain⟨B,l,rfl⟩:=List.mem_map.1 E;have:=Cv h f g l
  grind
 .show((G.R k).map _).Pairwise _
  rw[List.pairwise_map];exact(h.rh.row k).2.imp_of_mem (λ{a b} O P F=>by rw[(Cv h f g O).2.2.2.1,(Cv h f g P).2.2.2.1];exact F)
 .obtain⟨B,l,e⟩:=List.mem_map.1 o;have w:=Cv h f g l;rw[e] at w;rw[π] at w;have s:=(h.rh.row k).1 B l;have d:=(h.rh.mem k B.toNat).1 (by grind)
  grind
 .obtain⟨H,i,s,t⟩:=o
  show(y:Int)∈(G.R k).map _
  rw[List.mem_map];rcases(tu h.fh.f f g i).1 s with⟨e,d⟩|⟨j,m,d⟩
  .subst e;refine⟨(p:Int),(h.rh.mem k p).2 ⟨H,hp,d,?_⟩,by unfold Ma;rw[Δ ⟨rfl,d⟩]⟩
   grind
  .exact⟨(y:Int),(h.rh.mem k y).2 ⟨H,i,d,t⟩,by unfold Ma;rw[Γ (λe=>m ω)]⟩
 .rw[←h.w k N];unfold wt
  show(((G.R k).map _).map _).sum=_
  rw[List.map_map]
  congr 1
  exact List.map_congr_left (λz E=>by simp only[Function.comp];rw[(Cv h f g E).2.2.2.1])
def QC(h:Hu A G x)(b:x<A.cs.length)(d:G.F.u x=p)(m:∀c:Nat,c<A.cs.length->G.F.u c=x->dA A x c)(g:dA A x p):
  ∀c:Nat,c<A.cs.length->(tX G x p).F.u c=x->dA A x c:=λc f j=>by
 obtain⟨hp,i⟩:=h.fh.f.above b d;have a:p≠x:=λe=>by subst e;exact h.fh.f.self b i
 rcases vO h.fh.f b d f j with⟨e,h4⟩|⟨_,h4,e⟩|⟨e,e2⟩|⟨e3,_,h4,e⟩|⟨_,_,h4,e3,_⟩
 .have k:=h.fh.f.P7 b d;have l:=h.fh.f.P7 hp h4;omega
 .exact absurd e.symm a
 .subst e;exact g
 .exact dH g (h.fh.ord c p f h4 e3 a)
 .exact absurd rfl e3
def Hu.done(h:Hu A G x)(f:x<A.cs.length)(g:∀c:Nat,c<A.cs.length->G.F.u c=x->dA A x c)(i:∀p:Nat,G.F.u x=p->dA A p x):CZ A G:=by
 refine⟨⟨h.fh.f,h.fh.home,λy r a b=>?_,h.fh.alone⟩,h.rh,h.w⟩
 by_cases d:y=x
 .grind
 .by_cases e:r=x
  .grind
  .exact h.fh.ord y r a b d e
def Fj{k s:Int}(h:CZ A G)(l:iX A x k s=true)(i:x<A.cs.length):Hu (aA A x k s) G x/\∀c:Nat,c<A.cs.length->G.F.u c=x->dA (aA A x k s) x c:=by
 have H:=λy=>vk l i y;have m:=λy=>iW l i y;have n:=wJ l;rw[π] at n;have g:∀y r:Nat,y<A.cs.length->G.F.u y=r->y≠r:=λy r b j e=>by
  subst e;exact h.fh.f.self b (h.fh.f.above b j).2
 have o:∀y:Nat,y≠x->dA A x y->dA (aA A x k s) x y:=λy b p=>nu p (by grind) (by grind);have d:∀y r:Nat,y≠x->r≠x->dA A y r->dA (aA A x k s) y r:=λy r t u p=>(fC (by grind) (by grind)).2 p;have f:=gD A x k s;have z:∀q:Nat,cZ (aA A x k s) q=cZ A q:=λq=>by
  unfold aA;rw[Δ l,π];have e:=oH A x ⟨(A.c x).i,k,s⟩ q i;simp only at e;omega
 refine⟨⟨⟨by rw[f];exact h.fh.f,λy r b v=>?_,λy r b v D E=>?_,λy b w=>?_⟩,λq c a t u=>?_,⟨λq=>by rw[f];exact h.rh.row q,λq y=>?_⟩,λq F=>by rw[f,z];exact h.w q F⟩,λc a j=>?_⟩
 .rw[f] at b;simp only[m];exact h.fh.home y r b v
 .rw[f] at b;exact d r y E D (h.fh.ord y r b v)
 .rw[f] at b;simp only[m] at w;exact h.fh.alone y b w
 .rw[f] at a;have B:=h.fh.ord x q i t;have C:=h.fh.ord c x a u;exact d q c (λe=>g x q i t e.symm) (g c x a u) (dH B C)
 .rw[f];simp only[m];exact h.rh.mem q y
 .exact o c (g c x a j) (h.fh.ord c x a j)
end
def nH(A:NS)(a b:Int)(h:bW A a b=true):bW A b a=false:=by
 unfold bW at *;simp only[Τ,Ο] at h;have:=rA h.2;simp[this]
def yO{A:NS}{y p:Nat}(b:bY A (y:Int)=true)(hp:bY A (p:Int)=true)(a:y≠p)(h:bW A y p=false):dA A p y:=by
 rw[mZ,b,hp] at h;simp only[Bool.and_self,Bool.true_and,decide_eq_false_iff_not] at h;exact(jA a).resolve_left h
def iO(G:BG)(h x:Nat):BG:=⟨fT G.F x,dm G.R h ((G.R h).filter (λz=>z != (x:Int)))⟩
def rD(A:NS)(h x:Nat)(G:BG):BG:=xG (bW A) A.cs.length h (G.F.k x) (iO G h x)
def yu(A:NS)(h x:Nat)(G:BG):Nat:=(kE (bW A) A.cs.length (iO G h x).F ((iO G h x).R h) (G.F.k x)).q
def NF{l:List Int}(b:l.Nodup){x:Int}(c:x∈l):(l.filter (λz=>z != x)).length+1=l.length:=by
 induction l with
 |nil=>cases c
 |cons y r f=>
  rw[Ζ] at b;rcases ρ.1 c with e|h
  .subst e;have:r.filter (λz=>z != x)=r:=by
    rw[List.filter_eq_self];intro a d;simp;intro e;subst e;exact b.1 d
   grind
  .grind
def SQ{n:Nat}{F:CF}{l:List Int}(b:l.Nodup){x:Int}(c:x∈l):wt n F (l.filter (λz=>z != x))+2 ^ (dW n F x).toNat=wt n F l:=by
 have f:∀(y:Int) (l:List Int),wt n F (y::l)=2 ^ (dW n F y).toNat + wt n F l:=λy l=>by unfold wt;simp
 induction l with
 |nil=>cases c
 |cons y r g=>
  rw[Ζ] at b;rcases ρ.1 c with e|h
  .subst e;have:r.filter (λz=>z != x)=r:=by
    rw[List.filter_eq_self];intro a d;simp;intro e;subst e;exact b.1 d
   grind
  .grind
section
variable{A:NS}{G:BG}{h x:Nat}
def Ig(B:Hu A G x)(ok:A.Ok)(o:x<A.cs.length)(L:G.F.u x=-1)(U:0<(A.c x).i)(hh:(A.c x).i=h):
  CZ (aS A x) (rD A h x G)/\yu A h x G+((rD A h x G).R h).length+1=(G.R h).length+(G.F.k x).length/\(x:Int)∈G.R h/\
   mq A.cs.length (fT G.F x) ((G.R h).filter (λz=>z != (x:Int)))/\mq A.cs.length (fT G.F x) (G.F.k x)/\(∀z,z∈(G.R h).filter (λz=>z != (x:Int))->z∉G.F.k x)/\qD A.cs.length (fT G.F x)/\
   (∀z,z∈G.R h\/z∈G.F.k x->bY A z=true):=by
 have W:1<=h:=ω;have hn:=ok.c1;have E:bY A (x:Int)=true:=(aj _ _).2 ⟨o,U⟩;have f:=λy=>zN E y;have w:=fF A (x:Int);have dn:=B.fh.f.nd x o;have N:∀z,z∈G.F.k x->∃y:Nat,z=y/\y<A.cs.length/\G.F.u y=x:=λz d=>by
  obtain⟨y,C,D,h3,_⟩:=B.fh.f.below o d;exact⟨y,C,D,h3⟩
 have P:(x:Int)∉G.F.k x:=B.fh.f.self o;have O:∀z:Int,z≠x->dW A.cs.length (fT G.F x) z=dW A.cs.length G.F z:=λz d=>by
  unfold dW fT
  grind
 have uS:∀z:Int,0<=z->G.F.u z.toNat=-1->(fT G.F x).u z.toNat=-1:=λz R r=>by
  unfold fT
  grind
 have kU:∀z,z∈G.F.k x->(fT G.F x).u z.toNat=-1:=λz d=>by
  obtain⟨y,rfl,_,_⟩:=N z d;unfold fT
  grind
 have Q:(x:Int)∈G.R h:=(B.rh.mem h x).2 ⟨W,o,L,hh⟩;have t:∀k,mq A.cs.length (fT G.F x) ((iO G h x).R k):=λk=>by
  have base:∀l:List Int,mq A.cs.length G.F l->(x:Int)∉l->mq A.cs.length (fT G.F x) l:=λl H hxl=>by
   refine⟨λz d=>?_,H.2.imp_of_mem (λ{a b} ha hb hab=>?_)⟩
   .have:=H.1 z d
    grind
   .grind
  unfold iO dm;simp only
  split
  .refine base _ ⟨λz d=>(B.rh.row h).1 z (List.mem_filter.1 d).1,(B.rh.row h).2.filter _⟩ (λJ=>by simp at J)
  .rename_i m
   exact base _ (B.rh.row k) (λJ=>m (by have:=((B.rh.mem k x).1 J).2.2.2;omega))
 have H:mq A.cs.length (fT G.F x) (G.F.k x):=Uz B.fh.f o (λz d=>O z (λe=>P (e▸d))) kU;have X:∀z,z∈(iO G h x).R h->z∉G.F.k x:=λz d m=>by
  unfold iO dm at d;simp only[if_true] at d;obtain⟨y,rfl,g,r⟩:=N z m;have:=((B.rh.mem h y).1 (List.mem_filter.1 d).1).2.2.1;omega
 have Y:FH A.cs.length (fT G.F x) (λy=>((aS A x).c y).i) (dA (aS A x)):=by
  refine⟨B.fh.f.Wt o L,λy p g r=>?_,λy p g r=>?_,λy g R=>?_⟩
  all_goals unfold fT at *;simp only at *
  .split at r
   .omega
   .rename_i m
    have c:y≠x:=λe=>by subst e;omega
    have i:p≠x:=λe=>by subst e;exact m (B.fh.f.above g r).2
    rw[f,f,Γ c,Γ i];exact B.fh.home y p g r
  .split at r
   .omega
   .rename_i m
    have c:y≠x:=λe=>by subst e;omega
    have i:p≠x:=λe=>by subst e;exact m (B.fh.f.above g r).2
    exact(fC (by rw[f,Γ i]) (by rw[f,Γ c])).2 (B.fh.ord y p g r c i)
  .by_cases c:y=x
   .grind
   .rw[f,Γ c] at R;have:=B.fh.alone y g R
    grind
 have hL:∀y p:Nat,y<A.cs.length->p<A.cs.length->((aS A x).c y).i=(h:Int)->((aS A x).c p).i=(h:Int)->y≠p->bW A y p=false->dA (aS A x) p y:=λy p g hp C D S ha=>by
  have c:y≠x:=λe=>by rw[f,Δ e] at C;simp[Cl.z] at C;omega
  have i:p≠x:=λe=>by rw[f,Δ e] at D;simp[Cl.z] at D;omega
  rw[f,Γ c] at C;rw[f,Γ i] at D;exact(fC (by rw[f,Γ i]) (by rw[f,Γ c])).2 (yO ((aj _ _).2 ⟨g,ω⟩) ((aj _ _).2 ⟨hp,ω⟩) S ha)
 have j:∀y:Nat,y<A.cs.length->((fT G.F x).u y=-1↔G.F.u y=-1\/G.F.u y=x):=λy g=>by
  unfold fT;simp only;have m:=yJ B.fh.f o g
  grind
 have I:∀k y:Nat,k≠h->((y:Int)∈(iO G h x).R k↔1<=k/\y<A.cs.length/\(fT G.F x).u y=-1/\((aS A x).c y).i=(k:Int)):=λk y m=>by
  unfold iO dm;simp only[Γ m];rw[B.rh.mem k y];constructor
  .grind
  .rintro⟨M,q,v,s⟩;have c:y≠x:=λe=>by rw[f,Δ e] at s;simp[Cl.z] at s;omega
   rw[f,Γ c] at s;refine⟨M,q,((j y q).1 v).resolve_right (λe=>?_),s⟩;have:=(B.fh.home y x q e).1;omega
 have J:∀y:Nat,y<A.cs.length/\(fT G.F x).u y=-1/\((aS A x).c y).i=(h:Int)↔(y:Int)∈(iO G h x).R h\/(y:Int)∈G.F.k x:=λy=>by
  unfold iO dm;simp only[if_true,List.mem_filter,bne_iff_ne,ne_eq];rw[B.rh.mem h y];constructor
  .rintro⟨q,v,s⟩;have c:y≠x:=λe=>by rw[f,Δ e] at s;simp[Cl.z] at s;omega
   rw[f,Γ c] at s;rcases(j y q).1 v with e|e
   .grind
   .exact Β ((yJ B.fh.f o q).2 e)
  .rintro(⟨⟨_,q,v,s⟩,a5⟩|M)
   .grind
   .obtain⟨z,e,q,v⟩:=N _ M;obtain rfl:y=z:=ω;have c:y≠x:=λe=>by subst e;exact P M
    refine⟨q,(j y q).2 (Β v),?_⟩;rw[f,Γ c];have:=(B.fh.home y x q v).1;omega
 obtain⟨r1,r2,r3,r4⟩:=zQ (G:=iO G h x) Y hn (nH A) hL W t I J H X;have Z:(G.R h).Nodup:=(B.rh.row h).nodup;have K:(iO G h x).R h=(G.R h).filter (λz=>z != (x:Int)):=by unfold iO dm;simp
 have fl:=NF Z Q;refine⟨⟨by rw[w];exact r1,by rw[w];exact r2,λk m=>?_⟩,?_,Q,by rw[←K];exact t h,H,by rw[←K];exact X,Y.f,λz d=>?_⟩
 .rw[w];have e1:wt A.cs.length (rD A h x G).F ((rD A h x G).R k)=_:=r3 k;rw[e1];have u:=oH A x Cl.z (k:Int) o;have e2:aS A x=gu A x Cl.z:=by unfold aS;rw[Δ E,π]
  rw[e2]
  by_cases T:k=h
  .subst T;rw[Δ rfl,K];rw[Δ ω,Γ (by simp[Cl.z];omega)] at u;have w1:=SQ (F:=G.F) (n:=A.cs.length) Z Q;rw[fP _ _ o,π] at w1;have w2:=Zd (F':=fT G.F x) B.fh.f o (λz d=>O z (λe=>P (e▸d)));have w3:wt A.cs.length (fT G.F x) ((G.R k).filter (λz=>z != (x:Int)))=wt A.cs.length G.F ((G.R k).filter (λz=>z != (x:Int))):=Cx (λz d=>O z (by simpa using(List.mem_filter.1 d).2));have w4:=B.w k m
   show wt A.cs.length (fT G.F x) _+wt A.cs.length (fT G.F x) _=_
   omega
  .rw[Γ T];rw[Γ ω,Γ (by simp[Cl.z];omega)] at u;have eK:(iO G h x).R k=G.R k:=by unfold iO dm;simp only[Γ T]
   rw[eK];have w4:=B.w k m
   have w3:wt A.cs.length (fT G.F x) (G.R k)=wt A.cs.length G.F (G.R k):=Cx (λz d=>O z (λe=>by
    subst e;have:=((B.rh.mem k x).1 d).2.2.2
    omega))
   show wt A.cs.length (fT G.F x) _=_
   omega
 .rw[K] at r4;have e3:yu A h x G=(kE (bW A) A.cs.length (iO G h x).F ((G.R h).filter (λz=>z != (x:Int))) (G.F.k x)).q:=by unfold yu;rw[K]
  rw[e3];have e4:(rD A h x G).R h=(xG (bW A) A.cs.length h (G.F.k x) (iO G h x)).R h:=rfl;rw[e4];omega
 .rcases d with d|d
  .have L:=(B.rh.row h).1 z d;have:=(B.rh.mem h z.toNat).1 (by rw[show((z.toNat:Nat):Int)=z by omega];exact d);exact(qF _ _).2 ⟨L.1,L.2.1,by have:=this.2.2.2;omega⟩
  .obtain⟨y,rfl,g,r⟩:=N z d;exact(aj _ _).2 ⟨g,(B.fh.home y x g r).2⟩
