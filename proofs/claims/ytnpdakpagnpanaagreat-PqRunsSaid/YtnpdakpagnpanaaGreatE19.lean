/-
  Lemmas.
-/
import Derived.Test.YtnpdakpagnpanaaGreatE18
set_option linter.all false
set_option maxHeartbeats 8000000
set_option maxRecDepth 10000
namespace Go.Proofs.YtnpdakpagnpanaaGreat
open Tryz
open Go Go.RowKit
structure SB where
 n0:Nat
 c:Nat
 bt:Nat
 ba:Nat
 mb:Nat
structure oI(w:World)(B:SB)(F:List Nat)(A:NS)(st:Nat)(S:TS)(f:Int->Option Int):Prop where
 head:aQ w B.n0 207 3 (λj=>[Value.pointer (some B.c),.pointer (some B.bt),.map (some B.mb)].getD j undef)
 cells:aD w B.c F A st
 trees:bL w B.bt B.ba A.cs.length S
 top:fK w B.mb f
 bQ:B.n0∉F/\B.bt∉F/\B.ba∉F/\B.mb∉F
 sep:(B.n0≠B.bt/\B.n0≠B.ba/\B.n0≠B.mb)/\(B.bt≠B.mb/\B.ba≠B.mb)
section
variable{w:World}{B:SB}{F:List Nat}{A:NS}{st:Nat}{S:TS}{f:Int->Option Int}
def SB.blk(B:SB)(F:List Nat):List Nat:=B.n0::B.bt::B.ba::B.mb::F
def oI.upd{w':World}{G:List Nat}(h:oI w B F A st S f)(b:ae G w w')(d:∀x,x∈G->x∉B.blk F):oI w' B F A st S f:=by
 have a:∀y,y∈B.blk F->y∉G:=λy e c=>d y c e;exact⟨h.head.upd b (a _ (by simp[SB.blk])),h.cells.upd b (λx g c=>d x g (by simp[SB.blk,c])),h.trees.upd b (a _ (by simp[SB.blk])) (a _ (by simp[SB.blk])),h.top.upd b (a _ (by simp[SB.blk])),h.bQ,h.sep⟩
def oI.ag{w':World}(h:oI w B F A st S f)(a:ae [] w w'):oI w' B F A st S f:=h.upd a σ
def oI.lt(h:oI w B F A st S f):∀x,x∈B.blk F->x<w.heap.size:=λx a=>by
 simp only[SB.blk,ρ] at a;rcases a with rfl|rfl|rfl|rfl|a
 .exact h.head.lt
 .exact h.trees.head.lt
 .exact h.trees.row.lt
 .exact h.top.lt
 .exact h.cells.lt x a
def oI.cF(h:oI w B F A st S f):B.c∈F:=h.cells.mem
def oI.h0(h:oI w B F A st S f):w.cell? B.n0=some (B.c:V):=h.head.cellAt 0 ω rfl
def oI.h1(h:oI w B F A st S f):w.cell? ⟨B.n0,1,none⟩=some (B.bt:V):=h.head.cellAt 1 ω rfl
def oI.h2(h:oI w B F A st S f):w.cell? ⟨B.n0,2,none⟩=some (.map (some B.mb)):=h.head.cellAt 2 ω rfl
def oI.iT{w':World}{b:TS}(h:oI w B F A st S f)(a:ae [B.ba] w w')(c:bL w' B.bt B.ba A.cs.length b):oI w' B F A st b f:=by
 obtain⟨⟨d,e,g⟩,i,j⟩:=h.sep;obtain⟨k,l,m,n⟩:=h.bQ;exact⟨h.head.upd a (by grind),h.cells.upd a (λx o p=>by grind),c,h.top.upd a (by grind),h.bQ,h.sep⟩
def oI.setM{w':World}{b:Int->Option Int}(h:oI w B F A st S f)(a:ae [B.mb] w w')(c:fK w' B.mb b):oI w' B F A st S b:=by
 obtain⟨⟨d,e,g⟩,i,j⟩:=h.sep;obtain⟨k,l,m,n⟩:=h.bQ;exact⟨h.head.upd a (by grind),h.cells.upd a (λx o p=>by grind),h.trees.upd a (by grind) (by grind),c,h.bQ,h.sep⟩
def oI.cK{w':World}{F':List Nat}{A':NS}{a:Nat}(h:oI w B F A st S f)(e:ae F w w')(n:aD w' B.c F' A' a)(o:∀x,x∈F'->x∈F\/w.heap.size<=x)(p:A'.cs.length=A.cs.length):oI w' B F' A' a S f:=by
 obtain⟨g,i,j,k⟩:=h.bQ;have b:∀y,y<w.heap.size->y∉F->y∉F':=λy q m d=>by rcases o y d with l|l;exact m l;omega
 have c:=h.lt;exact⟨h.head.upd e g,n,by rw[p];exact h.trees.upd e i j,h.top.upd e k,⟨b _ (c _ (by simp[SB.blk])) g,b _ (c _ (by simp[SB.blk])) i,b _ (c _ (by simp[SB.blk])) j,b _ (c _ (by simp[SB.blk])) k⟩,h.sep⟩
def Qc(o:Option Int):Int:=o.getD (-1)
def mJ(h:oI w B F A st S f)(q:Int)(c:-9223372036854775808<=q/\q<=9223372036854775807):
  Calls prog 258 #[B.n0,q] w λe w'=>e=.returned (Qc (f q):Int)/\w'=w:=by
 have d:=h.h2;have a:=h.top;have k:=a.look_ok q c;unfold Qc;cases b:f q with
 |none=>
  rw[b] at k;simp only[Option.getD_none,Option.isSome_none] at k ⊢;clear a h
  go_enter func258,ntmps258
  go_wp2;go_ret;exact⟨rfl,rfl⟩
 |some z=>
  rw[b] at k;simp only[Option.getD_some,Option.isSome_some] at k ⊢;clear a h
  go_enter func258,ntmps258
  go_wp2;go_ret;exact⟨rfl,rfl⟩
def pV(h:oI w B F A st S f)(q:Nat)(z:Int)(k:1<=q/\q<=65536)(l:-1<=z/\z<=9223372036854775807):
  Calls prog 256 #[B.n0,(q:Int),z] w λe w'=>e=.returned (.tuple #[])/\ae [B.mb] w w'/\oI w' B F A st S (λy=>if y=(q:Int) then(if z=-1 then none else some z) else f y):=by
 have i:=h.h2;have d:=h.top;have H:=χ h
 by_cases c:z=-1
 .subst c;clear h
  go_enter func256,ntmps256
  go_wp2_with (refine nL rfl _ _ rfl B.mb f rfl d q rfl ω ?_;intro g b a)
  go_end0;exact⟨rfl,a,H.out.setM a b⟩
 .have j:(z == -1)=false:=by simpa using c
  rw[Γ c];clear h c
  go_enter func256,ntmps256
  go_wp2_with (refine lG rfl _ _ _ rfl B.mb f rfl d q z rfl rfl ω ω ?_;intro g b a)
  go_end0;exact⟨rfl,a,H.out.setM a b⟩
def Ce(h:oI w B F A st S f){fr:Fr}{P:List Fr}{t:BT}(i:dL S (-1) (ak (fr::P) t).root (ak (fr::P) t))(n:(ak (fr::P) t).nodes.Nodup)(a:∀y,y∈(ak (fr::P) t).nodes->y<A.cs.length):
  Calls prog 259 #[B.n0,(tv t.root:Int),.bool (tb t.root)] w λe w'=>e=.returned t.root/\ae [B.ba] w w'/\
   ∃g,oI w' B F A st g f/\dL g (-1) t.root t/\dL g (-1) (ak (fr::P) .nil).root (ak (fr::P) .nil)/\∀y,y∉(ak (fr::P) t).nodes->S.at g y:=by
 have u:=h.h1
 by_cases o:t=.nil
 .subst o;rw[show tv (BT.root .nil)=0 from rfl,show tb (BT.root .nil)=false from rfl,show BT.root .nil=-1 from rfl];have H:=χ (ψ h i);clear h i n a
  go_enter func259,ntmps259
  go_wp2;go_ret;exact⟨rfl,ae.refl _ _,S,H.out.1,rfl,H.out.2,λy _=>⟨rfl,rfl,rfl⟩⟩
 .obtain⟨r,c⟩:∃r:Nat,t.root=r:=⟨_,BT.zo o⟩;have d:=pE h.trees i n a;rw[show tv t.root=(r:Int) by rw[c];unfold tv;rw[Γ ω],show tb t.root=true by rw[c];unfold tb;simp];have H:=χ h;have q:=χ c;rw[c] at d;generalize tb (r:Int)=v at d;generalize cutV fr t=x at d;clear h i n a c
  go_enter func259,ntmps259
  go_wp2_with ((((with_reducible refine d.mono ?_));rintro e s ⟨rfl,b,p,j,k,l,m⟩))
  go_ret;rw[q.out];exact⟨rfl,b,p,H.out.iT b j,k,l,m⟩
end
def pX(x:Nat)(l m:BT):BT:=.node x m l
def vB:Vf pX where
 nodes:=λx l r=>by
  unfold pX;simp only[BT.nodes];exact List.perm_append_comm.cons x
 heap:=λA x l r a b c d=>⟨b,a,d,c⟩
 root:=λx l r=>rfl
def Fx{S:TS}{p:Int}{x:Nat}{l r:BT}(h:dL S p x (.node x l r))(b:(BT.node x l r).nodes.Nodup):dL (jS S x) p x (.node x r l)/\∀y,y≠x->S.at (jS S x) y:=by
 have hs:∀y,y≠x->S.at (jS S x) y:=λy a=>by
  unfold jS TS.aM TS.at;simp[a]
 have c:(jS S x).l x=S.r x:=by unfold jS TS.aM;simp
 have d:(jS S x).r x=S.l x:=by unfold jS TS.aM;simp
 have f:(jS S x).u x=S.u x:=by unfold jS TS.aM;simp
 simp only[BT.nodes,Ζ,τ,not_or] at b;refine⟨UQ (f.trans h.2.1) ?_ ?_,hs⟩
 .rw[c];exact h.2.2.2.frame (λy a=>hs y (λe=>b.1.2 (by grind)))
 .rw[d];exact h.2.2.1.frame (λy a=>hs y (λe=>b.1.1 (by grind)))
section
variable{w:World}{B:SB}{F:List Nat}{A:NS}{st:Nat}{S:TS}{f:Int->Option Int}
def QW(h:oI w B F A st S f){p:Int}{x:Nat}{l r:BT}(k:dL S p x (.node x l r))(n:x<A.cs.length)(i:∀y,y∈r.nodes->y<A.cs.length):
  Calls prog 259 #[B.n0,(tv r.root:Int),.bool (tb r.root)] w λe w'=>e=.returned r.root/\ae [B.ba] w w'/\oI w' B F A st (Be S x r) f:=by
 have q:=h.h1;cases r with
 |nil=>
  rw[show tv (BT.root .nil)=0 from rfl,show tb (BT.root .nil)=false from rfl,show BT.root .nil=-1 from rfl];have H:=χ h;clear h k i
  go_enter func259,ntmps259
  go_wp2;go_ret;exact⟨rfl,ae.refl _ _,H.out⟩
 |node y a b=>
  obtain⟨_,_,_,d⟩:=k;have j:S.u y=x:=d.2.1;have m:=G8 B.bt B.ba A.cs.length S x y w h.trees n (i y (by simp[BT.nodes])) j;rw[show tv (BT.root (.node y a b))=(y:Int) by show tv (y:Int)=y;unfold tv;rw[Γ ω],show tb (BT.root (.node y a b))=true by show tb (y:Int)=true;unfold tb;simp,show BT.root (.node y a b)=(y:Int) from rfl];have H:=χ h;clear h i d j
  go_enter func259,ntmps259
  go_wp2_with ((((with_reducible refine m.mono ?_));rintro e o ⟨rfl,g,c⟩))
  go_ret;exact⟨rfl,c,H.out.iT c g⟩
def L9(h:oI w B F A st S f){p:Int}{x:Nat}{l r:BT}(a:dL S p x (.node x l r))(b:x<A.cs.length):
  Calls prog 239 #[B.bt,(x:Int)] w λe w'=>e=.returned (.tuple #[(tv r.root:Int),.bool (tb r.root)])/\ae [] w w':=by
 refine(xK h.trees a b).mono ?_;rintro e w' ⟨rfl,k,rfl⟩;exact⟨rfl,(ae.refl _ _).drewN k⟩
def A8(t:BT):-1<=t.root:=by cases t with
 |nil=>exact Int.le_refl _
 |node x l r=>show(-1:Int)<=(x:Int);omega
def sZ(h:oI w B F A st S f){ta tb:BT}(ha:dL S (-1) ta.root ta)(hb:dL S (-1) tb.root tb)(hX:(ta.nodes++tb.nodes).Nodup)(hin:∀y,y∈ta.nodes++tb.nodes->bY A (y:Int)=true):
  Calls prog 257 #[B.n0,ta.root,tb.root] w λe w'=>e=.returned (.int .i64 (aI pX A ta tb).1.root)/\ae [B.c,B.ba] w w'/\
   ∃S',oI w' B F A (dw st (aI pX A ta tb).2) S' f/\dL S' (-1) (aI pX A ta tb).1.root (aI pX A ta tb).1/\∀y,y∉ta.nodes++tb.nodes->S.at S' y:=by
 have j:=h.lt;have qj:=h.cF;have hbl2:=j B.ba (by simp[SB.blk]);have hbl4:=j B.c (by simp[SB.blk,qj]);have hA:=h.cells.ok.c1;have n:Hid (∀y,y∈ta.nodes++tb.nodes->y<A.cs.length):=λy hy=>((aj A y).1 (hin y hy)).1;have hXl:(ta.nodes++tb.nodes).length<=A.cs.length:=oC hX n.out;have HM0:=χ h;have HBL:=χ j;have D0:=χ (Down.start pX A ha hb);have QV:=χ hin;have HX:=χ hX;have hst:=h.cells.oG;clear h ha hb j qj hin hX
 go_enter func257,ntmps257
 go_wp2
 go_loopw [1,2,7] (λa b way wr=>∃(S1:TS) (W:List (Nat×BT)) (d G:BT),a=.int .i64 d.root/\b=.int .i64 G.root/\wr.ownsRow w.heap.size 3 1 way W.length (NP W)/\oI wr B F A (dw st W.length) S1 f/\Down pX A S ta tb S1 W d G/\ae [B.c,B.ba] w wr) (λ_ _ way _=>(ta.nodes++tb.nodes).length-lenOf way)
 case atStart=>
  exact⟨S,[],ta,tb,rfl,rfl,⟨by simp[NP,aZ],Α ⟨rfl,rfl⟩⟩,by rw[List.length_nil,fG hst];exact HM0.out.ag β,D0.out,β⟩
 case round=>
  obtain⟨S1,W,d,G,rfl,rfl,ho,H,hD,I⟩:=hrel;have HM:=χ H;have HD:=χ hD;have HO:=χ ho;have D:=hD.len;have h0:=H.h0;have P:=H.h1;clear H hD;obtain⟨a5,c5,rfl,hc5⟩:=bz ho;have K9:∀g,(Value.slice a5 W.length c5).ownBlock=some g->w.heap.size<=g:=λg hg=>(ho.lt g hg).1;have Zf:=χ K9;clear ho K9
  by_cases t:d=.nil\/G=.nil
  .obtain⟨m0,O,U0,v,hor⟩:=HD.out.turn t;have hz:(d.root=-1/\G.root=m0.root)\/(d.root≠-1/\G.root=-1/\d.root=m0.root):=by
    by_cases e:d.root=-1
    .rw[Δ e] at O;exact Α ⟨e,O.symm⟩
    .rw[Γ e] at O;refine Β ⟨e,?_,O.symm⟩;rcases t with rfl|rfl
     .exact absurd rfl e
     .rfl
   have HU:=χ (ψ U0 v);have hWl:=U0.len;have HUP:=χ I;rw[←v] at HM;have Q:=A8 m0;clear t hor U0 HD v I D h0 O;generalize d.root=za at *;generalize G.root=zb at *;have e9:∃U,m0.root=U:=⟨_,rfl⟩;obtain⟨U,e9⟩:=e9;rw[e9] at hz Q;generalize hn0:W.length=n0 at *;have Zw:=χ hn0;clear hn0;have hz':(za=-1/\zb=-1/\U=-1)\/(za=-1/\zb=U/\U > -1)\/(za=U/\zb=-1/\U > -1):=ω;clear hz Q;rcases hz' with⟨rfl,rfl,rfl⟩|⟨rfl,rfl,hzg⟩|⟨rfl,rfl,hzg⟩
   all_goals
    try(have hz2:(za != -1)=true:=ζ)
    try(have hz3:¬((-1:Int) > za):=ω)
    go_wp2
    go_loopw [8,9] (λtop i w5=>∃(S2:TS) (W2 X:List (Nat×BT)) (m:BT),W=W2++X/\top=.int .i64 m.root/\i=.int .i64 ((W2.length:Int)-1)/\oI w5 B F A (dw st (aI pX A ta tb).2) S2 f/\Yy pX S (ta.nodes++tb.nodes) (aI pX A ta tb).1 S2 W2 m/\ae [B.ba] wr w5) (λ_ i _=>((intOf i)+1).toNat)
    case atStart=>exact⟨S1,W,[],m0,σ,by rw[e9],by rw[Zw.out],HM.out,HU.out.1,ae.refl _ _⟩
    case round=>
     obtain⟨S2,W2,X,m,rfl,rfl,rfl,H,Y,I⟩:=hrel;rename World=>w5;rcases List.eq_nil_or_concat W2 with rfl|⟨u,⟨x,l⟩,rfl⟩
     .have O:=Y.res;simp only[wU] at O;simp only[List.length_nil];go_wp2;go_ret;rw[O];exact⟨rfl,HUP.out.trans (I.mono σ),S2,H,Y.isM,λy hy=>Y.far y hy⟩
     .have K:=Y.perm;simp only[List.concat_eq_append] at *;rw[rR,ϋ] at K;have DR:∀q,q∈(x::l.nodes)++m.nodes->q<A.cs.length:=λq hq=>n.out q (K.mem_iff.1 (List.mem_append_right _ hq));have c:((x::l.nodes)++m.nodes).Nodup:=(θ.1 (K.nodup_iff.2 HX.out)).2.1;have hxA:=DR x σ;obtain⟨g,cap,ee,hI,hg⟩:=IZ.jd (l:=(u++[(x,l)]++X).map λp=>(p.1:Int)) (by rw[ϐ,Zw.out];exact au HO.out I (λk hk=>by have:=Zf.out k hk;simp;omega)) ζ;rw[ϐ,Zw.out] at ee
      injection ee with ee1 ee2 ee3
      subst ee1 ee3;have dz:=hI.cell u.length σ;rw[show(((u++[(x,l)]++X).map λp=>(p.1:Int)).getD u.length 0)=(x:Int) by simp[φ]] at dz;have P:=H.h1;have xO:=χ H;have RY:=χ Y;have Lb:=χ (ψ DR c);have hTx:=Y.way (x,l) σ;have HTX:=χ hTx;have hil:((u++[(x,l)]).length:Int)-1=u.length:=σ;rw[hil];have hi0:((u.length:Int)≥0):=ω;have hWn:u.length+1+X.length=n0:=by have:=Zw.out;simp at this;omega
      have DV:(u.length:Int)<(n0:Int):=ω;have hW3:u.length<=65536:=ω;clear H Y DR c hTx K hil hI ee2
      by_cases hm:m=.nil
      .subst hm;simp only[BT.root];have AY:dL S2 (-1) x (.node x l .nil):=HTX.out;obtain⟨Z,XJ⟩:=Fx AY (by simpa[BT.nodes] using Lb.out.2);have kt:=CP B.bt B.ba A.cs.length S2 x w5 xO.out.trees hxA;have s:=χ (ψ Z XJ);clear AY Z XJ
       go_wp2_with ((((with_reducible refine kt.mono ?_));rintro e w6 ⟨rfl,SS,iD⟩))
       refine⟨⟨jS S2 x,u,(x,l)::X,pX x l .nil,σ,rfl,by go_num,xO.out.iT iD SS,RY.out.turn vB HX.out s.out.1 (λy P _ _=>s.out.2 y P),I.trans iD⟩,by simp[intOf]⟩
      .obtain⟨mr,C⟩:∃mr:Nat,m.root=mr:=⟨_,BT.zo hm⟩;have L:=(cB hm).1;rw[C,π] at L;have AY:dL S2 (-1) x (.node x l .nil):=HTX.out;have hTm:=RY.out.isM;have hur:S2.u mr=-1:=by
        cases m with
        |nil=>exact absurd rfl hm
        |node q a b=>
         have e:q=mr:=by have e':(q:Int)=mr:=C;omega
         subst e;exact hTm.2.1
       have c:=Lb.out.2;have M:x≠mr:=λe=>by
        rw[θ] at c;exact c.2.2 x σ mr L e
       obtain⟨Z,XJ⟩:=EG (m:=m) AY hTm hm (by simpa[BT.nodes] using c);rw[C] at Z XJ;obtain⟨Tc,hS4⟩:=Fx Z (by simpa[BT.nodes] using c);have s:=χ (ψ Z (ψ hm (ψ XJ (ψ Tc hS4))));have kh:=BF B.bt B.ba A.cs.length S2 x mr true w5 (xO.out.trees) hxA (Lb.out.1 mr (List.mem_append_right _ L)) M hur AY.2.2.2;rw[C];have hz4:((mr:Int) != -1)=true:=σ;clear AY hTm hur c Z XJ Tc hS4 hm C L
       go_wp2_with (first
        |(((with_reducible refine kh.mono ?_));rintro e w6 ⟨rfl,SS,iD⟩;(have h16:=(xO.out.iT iD SS).h1);(have kt:=CP B.bt B.ba A.cs.length _ x w6 SS hxA))
        | (((with_reducible refine kt.mono ?_));rintro e w7 ⟨rfl,XA,lT⟩))
       refine⟨⟨_,u,(x,l)::X,pX x l m,σ,rfl,by go_num,(xO.out.iT iD SS).iT lT XA,RY.out.turn vB HX.out s.out.2.2.2.1 (λy P _ h3=>?_),(I.trans iD).trans lT⟩,by simp[intOf]⟩;have d:=s.out.2.2.1 y P h3;have a2:=s.out.2.2.2.2 y P;exact⟨a2.1.trans d.1,a2.2.1.trans d.2.1,a2.2.2.trans d.2.2⟩
  .obtain⟨x,l,r,rfl⟩:∃x l r,d=.node x l r:=by
    cases d with
    |nil=>exact absurd (Α rfl) t
    |node x l r=>exact⟨x,l,r,rfl⟩
   obtain⟨y,l',r',rfl⟩:∃x l r,G=.node x l r:=by
    cases G with
    |nil=>exact absurd (Β rfl) t
    |node x l r=>exact⟨x,l,r,rfl⟩
   clear t;have N:∀z,z∈(BT.node x l r).nodes++(BT.node y l' r').nodes->z∈ta.nodes++tb.nodes:=λz hz=>HD.out.perm.mem_iff.1 (List.mem_append_right _ hz);have M:=N x (by simp[BT.nodes]);have hym:=N y (by simp[BT.nodes]);have hWl:W.length+2<=(ta.nodes++tb.nodes).length:=by simp only[BT.nodes,Ω,υ] at D ⊢;omega
   have HMX:=χ N;have hxb:((x:Int) != -1)=true:=σ;have hyb:((y:Int) != -1)=true:=σ;clear N D;have kA:=fA HM.out.cells y x (QV.out y hym) (QV.out x M);obtain⟨sw,J⟩:∃sw,decide (dA A y x)=sw:=⟨_,rfl⟩;rw[J] at kA;have KEY:∃(z:Nat) (lz rz o:BT),z=(if sw then y else x)/\Down pX A S ta tb (Be S1 z rz) (W++[(z,lz)]) rz o/\dL S1 (-1) z (.node z lz rz)/\z<A.cs.length/\(∀q,q∈rz.nodes->q<A.cs.length)/\o.root=(if sw then(x:Int) else(y:Int)):=by
    cases sw with
    |true=>
     exact⟨y,l',r',.node x l r,rfl,HD.out.takeB HX.out (ϟ J),HD.out.isB,n.out y hym,λq hq=>n.out q (HMX.out q (by simp[BT.nodes,hq])),rfl⟩
    |false=>
     exact⟨x,l,r,.node y l' r',rfl,HD.out.takeA HX.out (of_decide_eq_false J),HD.out.isA,n.out x M,λq hq=>n.out q (HMX.out q (by simp[BT.nodes,hq])),rfl⟩
   obtain⟨z,lz,rz,o,ez,hD2,hTz,hz,hrz,eo⟩:=KEY;have HD2:=χ hD2;have HT:=χ hTz;have HQ:=χ hrz;clear hD2 hTz hrz J;simp only[BT.root];cases sw
   all_goals
    simp only[if_true,if_false,Ϟ] at ez eo;subst ez
    go_wp2_with fail
    refine kA.mono ?_;rintro e w1 ⟨rfl,gK,E⟩;have hM1:=χ (HM.out.cK (E.mono (by simp[HM.out.cF])) gK (λx hx=>Α hx) rfl);have hss:dw (dw st W.length) 1=dw st (W.length+1):=je _ _ _;rw[hss] at hM1;have ho1:=au HO.out E (λk hk=>by have:=Zf.out k hk;simp;omega);clear h0 P kA hss;have Zm:=χ (ψ I E);clear I E gK;have HGB:Hid (∀g,g∈(Value.slice a5 W.length c5).ownBlock.toList->g∉B.blk F):=λg hg hb=>by
     have P:=Zf.out g (Option.mem_toList.1 hg);have h2:=HBL.out g hb;omega
    have hsz1:w.heap.size<=w1.heap.size:=(Zm.out.1.trans (Zm.out.2.mono σ)).size
    go_wp2_with (first
     |((at_builtin;refine bD rfl _ _ 77 rfl w.heap.size 3 (.int .i64 0) 1 8 underlying77 gN rfl δ _ _ _ rfl (ho1) [.int .i64 (z:Int)] rfl (by simp[Value.oneCell']) (by first|rfl|(rw[Κ];rfl)) μ ω (ω) ?_;intro v2 w2 R hu2 oq);(have hM2:=χ (hM1.out.upd hu2 HGB.out));(have k12:=hM2.out.h1);(have kr:=L9 hM2.out HT.out hz))
     |((with_reducible refine kr.mono ?_);rintro e w3 ⟨rfl,T⟩;(have jH:=χ (hM2.out.ag T));(have kc:=QW jH.out HT.out hz HQ.out))
     | ((with_reducible refine kc.mono ?_);rintro e w4 ⟨rfl,iK,uD⟩))
    obtain⟨a6,c6,rfl,hc6⟩:=bz R;have acB:∀k,(Value.slice a6 (W.length+1) c6).ownBlock=some k->w.heap.size<=k:=λk hk=>(R.lt k hk).1;refine⟨⟨_,W++[(z,lz)],rz,o,rfl,congrArg (Value.int .i64) eo.symm,?_,?_,HD2.out,?_⟩,?_⟩
    .rw[Ed,υ,List.length_singleton];exact au (au R T σ) iK (λk hk=>by have:=acB k hk;simp;omega)
    .rw[υ,List.length_singleton];exact uD
    .have v1:ae [B.c,B.ba] w w1:=Zm.out.1.trans (Zm.out.2.mono σ);have v2:ae [B.c,B.ba] w w2:=v1.joined hu2 (λg hg=>Β (Zf.out g (Option.mem_toList.1 hg)));exact(v2.trans (T.mono σ)).trans (iK.mono σ)
    .show(ta.nodes++tb.nodes).length-(W.length+1)<(ta.nodes++tb.nodes).length-W.length
     omega
end
def pK(A:NS)(tr:Nat->BT)(q:Int):Option Int:=if 1<=q/\q<A.hs.length then(if(tr q.toNat).root=-1 then none else some (tr q.toNat).root) else none
def uL(A:NS)(tr:Nat->BT):List Int:=(List.range A.hs.length).map λh=>(tr h).root
def xk.OZ{K:Tn}{A:NS}{S:TS}{ai:List Int}{tr:Nat->BT}(h:xk K A S ai tr):xk K A S (uL A tr) tr:=
 ⟨λq a=>by unfold uL;simp[φ,a],h.Az,h.mem,h.nd,h.heap,h.free⟩
def mD(w:World)(B:SB)(F:List Nat)(A:NS)(st:Nat)(tr:Nat->BT):Prop:=∃S,oI w B F A st S (pK A tr)/\TrI A S (uL A tr) tr
def vz(A:NS)(tr:Nat->BT)(q:Nat)(h:1<=q/\q<A.hs.length):Qc (pK A tr (q:Int))=(tr q).root:=by
 unfold pK Qc
 grind
def oI.ext{w:World}{B:SB}{F:List Nat}{A:NS}{st:Nat}{S:TS}{f g:Int->Option Int}(h:oI w B F A st S f)(e:∀k,f k=g k):oI w B F A st S g:=⟨h.head,h.cells,h.trees,h.top.ext e,h.bQ,h.sep⟩
def Db{A A':NS}{tr:Nat->BT}{q:Nat}{t:BT}(b:A'.hs.length=A.hs.length)(c:1<=q/\q<A.hs.length)(k:Int):(if k=(q:Int) then(if t.root=-1 then none else some t.root) else pK A tr k)=pK A' (λy=>if y=q then t else tr y) k:=by
 by_cases e:k=(q:Int)
 .subst e;have a:pK A' (λy=>if y=q then t else tr y) (q:Int)=(if t.root=-1 then none else some t.root):=by
   unfold pK
   grind
  rw[a,Δ rfl]
 .have a:pK A' (λy=>if y=q then t else tr y) k=pK A tr k:=by
   unfold pK
   grind
  rw[a,Γ e]
def O7{A:NS}{S:TS}{ai:List Int}{tr:Nat->BT}(h:TrI A S ai tr)(b:A.cs.length<=65536){t:BT}(c:∀y,y∈t.nodes->y<A.cs.length):-1<=t.root/\t.root<=9223372036854775807:=by
 refine⟨A8 t,?_⟩
 by_cases e:t=.nil
 .rw[e];show(-1:Int)<=_;omega
 .have a:=cB e
  grind
section
variable{w:World}{B:SB}{F:List Nat}{A:NS}{st:Nat}{tr:Nat->BT}
def mD.upd{w':World}{G:List Nat}(h:mD w B F A st tr)(c:ae G w w')(d:∀x,x∈G->x∉B.blk F):mD w' B F A st tr:=by
 obtain⟨S,a,b⟩:=h;exact⟨S,a.upd c d,b⟩
def mD.ag{w':World}(h:mD w B F A st tr)(a:ae [] w w'):mD w' B F A st tr:=h.upd a σ
def Ip(h:mD w B F A st tr)(c x:Nat)(k s:Int)(hk:-9223372036854775808<=k/\k<=9223372036854775807/\0<=s/\s<=18446744073709551615)(p:oF A c x=true):
  Calls prog 253 #[B.n0,(c:Int),(x:Int),.agg #[k,.int .u64 s]] w λe w'=>e=.returned true/\ae (B.blk F) w w'/\
   mD w' B F (aN A c x k s) (dw st (aI pX (aN A c x k s) (tr c) (single x)).2) (λq=>if q=c then(aI pX (aN A c x k s) (tr c) (single x)).1 else tr q):=by
 obtain⟨S,i,g⟩:=h;have r:=i.lt;have u:=i.cells.ok;obtain⟨b1,b2,N⟩:=(fB _ _ _).1 p;have b4:=(aF _ _).1 b1;have v:x<A.cs.length:=by have:=(il _ _).1 b2;omega
 have P:(A.c x).i=0:=by
  have:=(u.nat x v).1;have h3:¬(0<(A.c x).i):=λh'=>by rw[(aj A x).2 ⟨v,h'⟩] at N;cases N
  omega
 have j:(aN A c x k s).cs.length=A.cs.length:=by unfold aN;rw[Δ p,fM]
 have jw:(aN A c x k s).hs.length=A.hs.length:=by unfold aN;rw[Δ p];rfl
 have l:∀y,(aN A c x k s).c y=if y=x then⟨c,k,s⟩ else A.c y:=λy=>by
  unfold aN;rw[Δ p,π,mg]
  by_cases e:y=x
  .rw[Δ ⟨e,v⟩,Δ e]
  .rw[Γ (λh=>e h.1),Γ e]
 have Q:x∉(tr c).nodes:=g.out P;have R:((tr c).nodes++(single x).nodes).Nodup:=by
  rw[θ];refine⟨g.nd c,by simp[single,BT.nodes],λa ha b hb e=>?_⟩;simp only[single,BT.nodes,Υ,ϒ] at hb;exact Q (by rw[←hb,←e];exact ha)
 have m:∀y,y∈(tr c).nodes++(single x).nodes->bY (aN A c x k s) (y:Int)=true:=λy d=>by
  rw[aj,j,l];simp only[single,BT.nodes,Υ,τ,ϒ] at d
  by_cases e:y=x
  .rw[Δ e,e];exact⟨v,by show(0:Int)<(c:Int);omega⟩
  .rw[Γ e];have:=(g.mem c y).1 (d.resolve_right e);exact⟨this.2.1,ω⟩
 have z:Heap (aN A c x k s) (tr c):=(g.heap c).frame (λy d=>by rw[l,Γ (λe=>Q (by rw[←e];exact d))]);obtain⟨O,mh⟩:=kK vB (aN A c x k s) _ (tr c) (single x) (Θ _);have P5:=mh z ⟨by simp[BT.nodes],by simp[BT.nodes],trivial,trivial⟩ R;have C:=g.free x v P;have D:=g.Az c;have hq:1<=c/\c<A.hs.length:=ω;have aa2:=u.h1
 have T:=O7 g u.c1 (t:=(aI pX (aN A c x k s) (tr c) (single x)).1) (λy d=>by
  have h1:=O.mem_iff.1 d;have:=(aj _ y).1 (m y h1)
  rw [j] at this;exact this.1)
 have E:=vz A tr c hq
 have FI:Hid (∀ (W:World) (H:TS) (o:Nat),oI W B F (aN A c x k s) o H (λy=>if y=(c:Int) then (if (aI pX (aN A c x k s) (tr c) (single x)).1.root=-1 then none else some (aI pX (aN A c x k s) (tr c) (single x)).1.root) else pK A tr y)->dL H (-1) (aI pX (aN A c x k s) (tr c) (single x)).1.root (aI pX (aN A c x k s) (tr c) (single x)).1->
   (∀y,y∉(tr c).nodes++(single x).nodes->S.at H y)->mD W B F (aN A c x k s) o (λq=>if q=c then (aI pX (aN A c x k s) (tr c) (single x)).1 else tr q)):=λW H o a1 a2 a4=>
  ⟨H,a1.ext (Db jw hq),(g.put u (by simp[uL]) p a2 O P5 (λy d=>a4 y d)).OZ⟩
 have U:ae [] w (w.alloc (.cells #[k,.int .u64 s] 97)):=(ae.refl _ _).alloc _;have kp:=λW (Z:ae [] (w.alloc (.cells #[k,.int .u64 s] 97)) W)=>oQ (i.cells.ag (U.trans Z)) c x k s hk p;have h0:=i.h0;have wC:B.n0∉F:=i.bQ.1;have G:w.heap.size∉F:=λhm=>by have:=r w.heap.size (by simp[SB.blk,hm]);omega
 have r0:∀W,ae F (w.alloc (.cells #[k,.int .u64 s] 97)) W->W.cell? B.n0=some (B.c:V):=λW Z=>Z.kept (U.was h0) wC;have r1:∀W,ae F (w.alloc (.cells #[k,.int .u64 s] 97)) W->W.cell? w.heap.size=some (k:V):=λW h=>h.kept σ G;have r2:∀W,ae F (w.alloc (.cells #[k,.int .u64 s] 97)) W->W.cell? ⟨w.heap.size,1,none⟩=some (.int .u64 s):=λW h=>h.kept σ G;have HM:=χ i;have I:=χ (ψ R (ψ m (ψ D C)));have qj:=i.cF;clear i g u b1 b2 N P l Q R m z O mh P5 C h0 r D
 generalize hA':aN A c x k s=A' at *;generalize htr:tr c=th at *
 go_enter func253,ntmps253
 go_wp2
 go_region_held3 (ae F (w.alloc (.cells #[k,.int .u64 s] 97))) (exact ν)
  (((with_reducible refine(kp _ β).mono ?_);rintro e w1 ⟨rfl,gK,J⟩;(have f:ae F (w.alloc (.cells #[k,.int .u64 s] 97)) w1:=ν)))
 have X:ae F w (w.alloc (.cells #[k,.int .u64 s] 97)):=U.mono σ;have n:=HM.out.cK (X.trans f) gK (λy d=>Α d) j;have Y:ae F w w1:=X.trans f;have k1:=mJ n (c:Int) ω;rw[E] at k1;have km:=sZ n I.out.2.2.1 (xJ I.out.2.2.2) I.out.1 I.out.2.1;rw[show(single x).root=(x:Int) from rfl] at km;clear r0 r1 r2 kp J f gK X n
 go_wp2_with (first
  |((with_reducible refine aP k1 ?_))
  |(((with_reducible refine km.mono ?_));rintro e w2 ⟨rfl,f,S2,K,AY,L⟩;(have kc:=pV K c _ ω T))
  | (((with_reducible refine kc.mono ?_));rintro e w3 ⟨rfl,M,jH⟩))
 go_ret;refine⟨rfl,((Y.mono (λy d=>by simp only[SB.blk,ρ];simp[d])).trans (f.mono (λy d=>?_))).trans (M.mono (by simp[SB.blk])),FI.out _ S2 _ jH AY L⟩;simp only[ρ,ς,or_false] at d;simp only[SB.blk,ρ];rcases d with rfl|rfl
 .simp[qj]
 .simp
def Ri(h:mD w B F A st tr)(x:Int)(g:-9223372036854775808<=x/\x<=9223372036854775807)(j:cZ A x=0):
  Calls prog 255 #[B.n0,x] w λe w'=>e=.returned (.tuple #[(0:Int),false])/\w'=w:=by
 obtain⟨S,c,d⟩:=h;have f:Qc (pK A tr x)=-1:=by
  unfold pK
  split
  .rename_i i
   have:(tr x.toNat)=.nil:=by
    cases e:tr x.toNat with
    |nil=>rfl
    |node y a b=>
     have:=(d.mem x.toNat y).1 (by rw[e];simp[BT.nodes]);have:0<cZ A x:=fO.2 ⟨y,this.2.1,by show(A.c y).i=x;omega,by omega⟩;omega
   rw[this];rfl
  .rfl
 have k:=mJ c x g;rw[f] at k;clear c d
 go_enter func255,ntmps255
 go_wp2_with (first|((with_reducible refine aP k ?_))|fail)
 go_ret2;exact⟨rfl,rfl⟩
def FJ(h:mD w B F A st tr)(g:Nat)(l:0<cZ A g):
  Calls prog 255 #[B.n0,(g:Int)] w λe w'=>∃m:Nat,dB A g=some m/\(tr g).root=m/\e=.returned (.tuple #[(m:Int),true])/\w'=w:=by
 obtain⟨S,d,f⟩:=h;obtain⟨m,a,b⟩:=f.first l;have c:=(jU b);have i:=(aF _ _).1 (iH d.cells.ok c.2.2.2);rw[π,c.2.2.1] at i;have n:=d.cells.ok.h1;have k:=mJ d (g:Int) ω;rw[vz A tr g ω,a] at k;have j:((m:Int) == -1)=false:=σ;clear d f
 go_enter func255,ntmps255
 go_wp2_with (first|((with_reducible refine aP k ?_))|fail)
 go_ret2;exact⟨m,b,a,rfl,rfl⟩
end
noncomputable def IW(A:NS)(t:BT)(x:Nat):BT×Nat:=(ak (pathOf t x).1 (aI pX A (pathOf t x).2.1 (pathOf t x).2.2).1,(aI pX A (pathOf t x).2.1 (pathOf t x).2.2).2)
section
variable{w:World}{B:SB}{F:List Nat}{A:NS}{st:Nat}{tr:Nat->BT}{S:TS}{f:Int->Option Int}
def Mt{bt ba n:Nat}(h:bL w bt ba n S){fr:Fr}{P:List Fr}{x:Nat}{l r:BT}(d:dL S (-1) (ak (fr::P) (.node x l r)).root (ak (fr::P) (.node x l r)))(f:(ak (fr::P) (.node x l r)).nodes.Nodup)(g:fr.1<n):
  ∃(c:Int) (b:Bool),((b=true/\(c == (x:Int))=fr.2.1)\/(b=false/\fr.2.1=false))/\Calls prog 239 #[bt,(fr.1:Int)] w λe w'=>e=.returned (.tuple #[c,b])/\∃k,w'=w.drewN k:=by
 obtain⟨z,a,k⟩:=Fh h d f g
 by_cases e:z=-1
 .refine⟨tv z,tb z,Β ⟨by rw[e];rfl,?_⟩,k⟩;rw[←a,e];first|(simp;done)|(simp;omega)
 .exact⟨tv z,tb z,Α ⟨by unfold tb;simp[e],by unfold tv;rw[Γ e];exact a⟩,k⟩
def Yj(w':World)(B:SB)(F:List Nat)(A:NS)(st:Nat)(S:TS)(f:Int->Option Int)(g x:Nat)(P:List Fr)(X:List Nat)(T:BT):Prop:=
 ∃S',oI w' B F (aS A x) st S' (λy=>if P=[]/\y=(g:Int) then(if T.root=-1 then none else some T.root) else f y)/\dL S' (-1) T.root T/\(∀y,y∉X->S.at S' y)/\(S'.l x=-1/\S'.r x=-1/\S'.u x=-1)
def FU(hM:oI w B F A st S f){g x:Nat}{P:List Fr}{l r:BT}(R:bY A (x:Int)=true)(hg:(A.c x).i=g)(hgq:1<=g/\g<=65536)
  (hT:dL S (-1) (ak P (.node x l r)).root (ak P (.node x l r))) (hn:(ak P (.node x l r)).nodes.Nodup) (E:∀y,y∈(ak P (.node x l r)).nodes->bY A (y:Int)=true):
  Calls prog 251 #[B.n0,(x:Int)] w λe w'=>e=.returned true/\ae (B.blk F) w w'/\
   Yj w' B F A (dw st (aI pX A l r).2) S f g x P (ak P (.node x l r)).nodes (ak P (aI pX A l r).1):=by
 have hxl:=((aj A x).1 R).1;have hlt:∀y,y∈(ak P (.node x l r)).nodes->y<A.cs.length:=λy c=>((aj A y).1 (E y c)).1;have kh:=bX hM.cells x R;rw[hg] at kh;have h0:=hM.h0;have HM:=χ hM;have XD:=sK hn;have mp:=(kK vB A _ l r (Θ _)).1;have qj:=hM.cF;have hsep:=χ (ψ hM.sep hM.bQ);have O:=χ (ψ hT (ψ hn (ψ E hlt)));have Q:=χ XD;have hA:=hM.cells.ok.c1;obtain⟨m,k,M⟩:∃m k,aI pX A l r=(m,k):=⟨_,_,rfl⟩;rw[M] at mp;rw[M]
 have abv:∀y,y∈m.nodes->y<A.cs.length:=λy c=>hlt y (aJ.2 (Α (by
  have:=mp.mem_iff.1 c
  simp only [BT.nodes];exact Λ _ this)))
 have hmr:-1<=m.root/\m.root<=9223372036854775807:=by
  refine⟨A8 m,?_⟩
  by_cases e:m=.nil
  .rw[e];show(-1:Int)<=_;omega
  .have p:=cB e;have h2:=abv _ p.1;omega
 have HMP:=χ mp;have HMK:=χ M;have QV:=χ R;have HML:=χ abv;clear hM hT hn E hlt XD mp M R hg abv
 go_enter func251,ntmps251
 go_wp2_with (first|(((with_reducible refine kh.mono ?_));rintro e G ⟨rfl,gK,J⟩;(have g1:=(HM.out.cK J gK (λy c=>Α c) rfl).h1))|fail)
 have hM1:=HM.out.cK J gK (λy c=>Α c) rfl;have kl:=λW (j:ae [] G W)=>EI (hM1.ag j).trees ((fe _ _).1 O.out.1).1 hxl;have klo:=λW (j:ae [] G W)=>Ce (hM1.ag j) (fr:=(x,false,r)) (P:=P) (t:=l) O.out.1 O.out.2.1 O.out.2.2.2;have hn0:B.n0∉[B.c,B.ba]:=by
  have N:=hsep.out;have X:B.n0≠B.c:=λe=>N.2.1 (by rw[e];exact qj);simp;omega
 have r1:∀W,ae [B.c,B.ba] G W->W.cell? ⟨B.n0,1,none⟩=some (B.bt:V):=λW j=>j.kept g1 hn0;have N9:(ak ((x,true,.nil)::P) r).nodes.Nodup:=by
  have e:=(aV P (.node x .nil r));refine e.nodup_iff.2 ?_;obtain⟨⟨N,X,H⟩,Y,a5,a6,a7⟩:=Q.out;simp only[BT.nodes,Ϛ,θ] at Y ⊢;refine⟨Ζ.2 ⟨X,Y.2.1⟩,a7,λy c z hz e=>?_⟩;subst e;rcases ρ.1 c with e|c
  .exact H (by rw[←e];exact hz)
  .exact a6 y c hz
 have Fz:∀y,y∈(ak ((x,true,.nil)::P) r).nodes->y∈(ak P (.node x l r)).nodes:=λy c=>by
  have i:y∈(ak P (.node x .nil r)).nodes:=c;rw[aJ] at i ⊢;simp only[BT.nodes,Ϛ,ρ,τ] at i ⊢;rcases i with(i|i)|i
  .exact Α (Α i)
  .exact Α (Β (Β i))
  .exact Β i
 have TF:∀y,y∈l.nodes->y∉(ak ((x,true,.nil)::P) r).nodes:=λy c d=>by
  obtain⟨⟨N,X,H⟩,Y,a5,a6,a7⟩:=Q.out;rw[θ] at Y;have i:y∈(ak P (.node x .nil r)).nodes:=d;rw[aJ] at i;simp only[BT.nodes,Ϛ,ρ] at i;rcases i with(i|i)|i
  .exact N (by rw[←i];exact c)
  .exact Y.2.2 y c y i rfl
  .exact a5 y c i
 have H3:=χ (ψ N9 (ψ Fz TF));clear hM1 gK kh h0 N9 Fz TF
 go_region_held3 (ae [B.c,B.ba] G) (exact ν)
  (first
   |(((with_reducible refine(kl _ η).mono ?_));rintro e w2 ⟨rfl,k2,hw2⟩;(have hq2:ae [] G w2:=(by rw[hw2];refine ae.drewN ?_ _;exact η));clear hw2;(have hv2:ae [B.c,B.ba] G w2:=hq2.mono σ))
   |(((with_reducible refine(klo _ η).mono ?_));rintro e w3 ⟨rfl,hu3,S3,jH,hl3,hp3,hs3⟩;(have hv3:ae [B.c,B.ba] G w3:=ae.trans ν (hu3.mono σ));(have Sa:dL S3 (-1) (ak ((x,true,.nil)::P) r).root (ak ((x,true,.nil)::P) r):=hp3);(have kr:=λW (j:ae [] w3 W)=>xK (jH.ag j).trees ((fe P (.node x .nil r)).1 Sa).1 hxl);(have Z:=λW (j:ae [] w3 W)=>Ce (jH.ag j) (fr:=(x,true,.nil)) (P:=P) (t:=r) Sa H3.out.1 (λy c=>O.out.2.2.2 y (H3.out.2.1 y c))))
   |(((with_reducible refine(kr _ η).mono ?_));rintro e w4 ⟨rfl,k4,hw4⟩;(have hq4:ae [] w3 w4:=(by rw[hw4];refine ae.drewN ?_ _;exact η));clear hw4;(have hv4:ae [B.c,B.ba] G w4:=hv3.trans (hq4.mono σ)))
   |(((with_reducible refine(Z _ η).mono ?_));rintro e w5 ⟨rfl,dD,S5,wY,Nl,XK,hs5⟩;(have hv5:ae [B.c,B.ba] G w5:=ae.trans ν (dD.mono σ));(have km:=λW (j:ae [] w5 W)=>sZ (wY.ag j) (hl3.frame (λy c=>hs5 y (H3.out.2.2 y c))) Nl Q.out.2.1 (λy c=>O.out.2.2.1 y (aJ.2 (Α (by simp only[BT.nodes];exact Λ _ c)))));rw[HMK.out] at km)
   | (((with_reducible refine (km _ η).mono ?_));rintro e n ⟨rfl,iD,S6,wR,SS,hs6⟩;(have hv6:ae [B.c,B.ba] G n:=ae.trans ν iD)))
 have hp6:dL S6 (-1) (ak P (.node x .nil .nil)).root (ak P (.node x .nil .nil)):=dL.frame (show dL S5 (-1) (ak P (.node x .nil .nil)).root (ak P (.node x .nil .nil)) from XK) (λy c=>hs6 y (λd=>by
  obtain⟨⟨N,X,H⟩,Y,a5,a6,a7⟩:=Q.out;rw[aJ] at c;simp only[BT.nodes,Ϛ,ρ,ς,or_false] at c;rw[τ] at d;rcases c with e|c
  .subst e;rcases d with d|d;exact N d;exact X d
  .rcases d with d|d;exact a5 y d c;exact a6 y d c))
 have f6:∀y,y∉(ak P (.node x l r)).nodes->S.at S6 y:=λy c=>by
  have p:y∉l.nodes++r.nodes:=λd=>c (aJ.2 (Α (by simp only[BT.nodes];exact Λ _ d)));exact gU (gU (hs3 y c) (hs5 y (λd=>c (H3.out.2.1 y d)))) (hs6 y p)
 have u6:ae (B.blk F) w n:=(J.mono (λy c=>by simp only [SB.blk,ρ];simp [c])).trans (hv6.mono (λy c=>by
   simp only[ρ,ς,or_false] at c;simp only[SB.blk,ρ];rcases c with rfl|rfl
   .simp[qj]
   .simp))
 have ku:=λW (j:ae [] n W)=>Ox (wR.ag j).trees hp6 hxl;have C:=λW (j:ae [] n W)=>(wR.ag j).h1;have I:=χ wR;have H6:=χ (ψ hp6 (ψ f6 SS));have hmm:Hid (∀y,y∈m.nodes->y∉ed P/\y≠x):=λy c=>by
  obtain⟨⟨N,X,H⟩,Y,a5,a6,a7⟩:=Q.out;have p:=HMP.out.mem_iff.1 c;rw[τ] at p;rcases p with p|p
  .exact⟨a5 y p,λe=>N (by rw[←e];exact p)⟩
  .exact⟨a6 y p,λe=>X (by rw[←e];exact p)⟩
 have hmx:Hid (∀y,y∈m.nodes->y∈(ak P (.node x l r)).nodes):=λy c=>aJ.2 (Α (by
  have p:=HMP.out.mem_iff.1 c
  simp only [BT.nodes,ρ];exact Β p))
 have Il:Hid m.nodes.Nodup:=HMP.out.nodup_iff.2 Q.out.2.1;clear wR hp6 f6 SS hs6 hs5 hs3 XK hp3 Sa hl3 Nl wY jH km klo Z kr kl r1 J g1 hv6 hv5 hv4 hv3 hv2 hq2 hq4 hu3 dD iD;obtain⟨wX,hwX,uX⟩:∃wX,wX=n/\ae [] n wX:=⟨n,rfl,ae.refl _ _⟩;cases P with
 |nil=>
  rw[show Eu ([]:List Fr)=-1 from rfl,show tv (-1)=0 from rfl,show tb (-1)=false from rfl] at ku;have g61:=C n (ae.refl _ _);clear C
  go_wp2_with (first
   |(((with_reducible refine(ku _ η).mono ?_));rintro e w7 ⟨rfl,kk,u⟩;(have u7:ae [] n w7:=(by rw[u];refine ae.drewN ?_ _;exact η));clear u;(have kc:=pV (I.out.ag u7) g m.root hgq hmr))
   |(((with_reducible refine kc.mono ?_));rintro e T ⟨rfl,A7,hM8⟩;(have g80:=hM8.h0);(have kd:=ik hM8.cells x QV.out))
   | (((with_reducible refine kd.mono ?_));rintro e w9 ⟨rfl,hC9,s⟩))
  go_ret;obtain⟨b1,b2,b4⟩:=H6.out;have bx:=((fe _ _).1 b1).1;refine⟨rfl,((u6.trans (u7.mono σ)).trans (A7.mono (by simp[SB.blk]))).trans (s.mono (λy c=>by simp only[SB.blk,ρ];simp[c])),S6,(hM8.cK s hC9 (λy c=>Α c) (fF _ _)).ext (λy=>?_),b4,b2,⟨bx.2.2.1.root,bx.2.2.2.root,bx.2.1⟩⟩
  by_cases e:y=(g:Int)
  .rw[Δ (show([]:List Fr)=[]/\y=(g:Int) from⟨rfl,e⟩),Δ e];rfl
  .rw[Γ e,Γ (show ¬(([]:List Fr)=[]/\y=(g:Int)) from λh=>e h.2)]
 |cons fr D=>
  rw[show Eu (fr::D)=(fr.1:Int) from rfl,Wj,He] at ku;have hfl:fr.1<A.cs.length:=O.out.2.2.2 fr.1 (aJ.2 (Β (by simp[ed])));have KQ:(ak (fr::D) (.node x .nil .nil)).nodes.Nodup:=by
   refine(aV (fr::D) (.node x .nil .nil)).nodup_iff.2 ?_;obtain⟨⟨N,X,H⟩,Y,a5,a6,a7⟩:=Q.out;simp only[BT.nodes,Ϛ,List.singleton_append,Ζ];exact⟨H,a7⟩
  have MH:∀y,y∈(ak (fr::D) (.node x .nil .nil)).nodes->y∈(ak (fr::D) (.node x l r)).nodes:=λy c=>by
   rw[aJ] at c ⊢;simp only[BT.nodes,Ϛ,ρ,ς,or_false] at c;rcases c with c|c
   .exact Α (by simp[BT.nodes,c])
   .exact Β c
  have ksd:=λW (j:ae [] n W)=>Mt (I.out.ag j).trees H6.out.1 KQ hfl;have Im:=λW (j:ae [] n W)=>pE (I.out.ag j).trees (f:=fr) (P:=D) (t:=.node x .nil .nil) H6.out.1 KQ (λy c=>O.out.2.2.2 y (MH y c));rw[show BT.root (.node x .nil .nil)=(x:Int) from rfl] at Im;generalize hcv:cutV fr (.node x .nil .nil)=cv at Im;generalize hcb:tb (x:Int)=cb at Im;have Lb:=χ (ψ KQ MH);have g61:=C n (ae.refl _ _);clear KQ MH hcv hcb
  go_wp2_with ((((with_reducible refine(ku _ η).mono ?_));rintro e w7 ⟨rfl,kk,u⟩;(have u7:ae [] n w7:=(by rw[u];refine ae.drewN ?_ _;exact η));clear u))
  obtain⟨r',bb,hbb,kr⟩:=ksd w7 u7;have hmz':(m=.nil/\(m.root != -1)=false)\/(m≠.nil/\(m.root != -1)=true):=by
   by_cases e:m=.nil
   .exact Α ⟨e,by rw[e];rfl⟩
   .exact Β ⟨e,by have:=(cB e).2;simp;omega⟩
  have HQ61:=χ C;clear ksd ku C;rcases hmz' with⟨hmz,hmb⟩|⟨hmz,hmb⟩
  .have HMZ:=χ hmz;clear hmz;rcases hbb with⟨rfl,hb2⟩|⟨rfl,hb2⟩
   all_goals
    go_wp2_with (first
     |(((with_reducible refine kr.mono ?_));rintro e T ⟨rfl,k8,v⟩;(have q:ae [] n T:=(by rw[v];exact u7.drewN k8));clear v;(have g81:=HQ61.out T q);(have kc:=Im T q))
     |(((with_reducible refine kc.mono ?_));rintro e w9 ⟨rfl,s,S9,K,o,hp9,L⟩;(have g90:=((I.out.ag q).iT s K).h0);(have kd:=ik ((I.out.ag q).iT s K).cells x QV.out))
     | (((with_reducible refine kd.mono ?_));rintro e w10 ⟨rfl,Lm,Cc⟩))
    go_ret;have hz:=HMZ.out;subst hz;refine⟨rfl,((u6.trans (q.mono σ)).trans (s.mono (by simp[SB.blk]))).trans (Cc.mono (λy c=>by simp only[SB.blk,ρ];simp[c])),S9,(((I.out.ag q).iT s K).cK Cc Lm (λy c=>Α c) (fF _ _)).ext (λy=>by rw[Γ σ]),hp9,λy c=>gU (H6.out.2.1 y c) (L y (λd=>c (Lb.out.2 y d))),⟨o.2.2.1.root,o.2.2.2.root,o.2.1⟩⟩
  .have HMZ:=χ hmz;have hxm:∀y,y∈m.nodes->y∉(ak (fr::D) (.node x .nil .nil)).nodes:=λy c d=>by
    have b1:=hmm.out y c;rw[aJ] at d;simp only[BT.nodes,Ϛ,ρ,ς,or_false] at d;rcases d with d|d
    .exact b1.2 d
    .exact b1.1 d
   have hnd:(m.nodes++ed (fr::D)).Nodup:=by
    rw[θ];exact⟨Il.out,Q.out.2.2.2.2,λa ha b hb e=>(hmm.out a ha).1 (by rw[e];exact hb)⟩
   have hsm:∀y,y∈m.nodes++ed (fr::D)->y∈(ak (fr::D) (.node x l r)).nodes:=λy c=>by
    rw[τ] at c;rcases c with c|c
    .exact hmx.out y c
    .exact aJ.2 (Β c)
   have Ta:=χ (ψ hxm (ψ hnd hsm));clear hmz hxm hnd hsm;rcases hbb with⟨rfl,hb2⟩|⟨rfl,hb2⟩
   all_goals
    go_wp2_with (first
     |(((with_reducible refine kr.mono ?_));rintro e T ⟨rfl,k8,v⟩;(have q:ae [] n T:=(by rw[v];exact u7.drewN k8));clear v;(have g81:=HQ61.out T q);(have kc:=Im T q))
     |(((with_reducible refine kc.mono ?_));rintro e w9 ⟨rfl,s,S9,K,o,hp9,L⟩;(have g91:=((I.out.ag q).iT s K).h1);(have khg:=Fy K hp9 (H6.out.2.2.frame (λy c=>L y (Ta.out.1 y c))) HMZ.out Ta.out.2.1 (λy c=>O.out.2.2.2 y (Ta.out.2.2 y c)));(try rw[hb2] at khg))
     |(((with_reducible refine khg.mono ?_));rintro e w9b ⟨rfl,YH,S9b,abo,hp9b,U⟩;(have g90:=(((I.out.ag q).iT s K).iT YH abo).h0);(have kd:=ik (((I.out.ag q).iT s K).iT YH abo).cells x QV.out))
     | (((with_reducible refine kd.mono ?_));rintro e w10 ⟨rfl,Lm,Cc⟩))
    go_ret;have xL:x∉m.nodes++ed (fr::D):=λd=>by
     rw[τ] at d;rcases d with d|d
     .exact(hmm.out x d).2 rfl
     .exact Q.out.1.2.2 d
    have H:=U x xL;refine⟨rfl,(((u6.trans (q.mono σ)).trans (s.mono (by simp[SB.blk]))).trans (YH.mono (by simp[SB.blk]))).trans (Cc.mono (λy c=>by simp only[SB.blk,ρ];simp[c])),S9b,((((I.out.ag q).iT s K).iT YH abo).cK Cc Lm (λy c=>Α c) (fF _ _)).ext (λy=>by rw[Γ σ]),hp9b,λy c=>gU (gU (H6.out.2.1 y c) (L y (λd=>c (Lb.out.2 y d)))) (U y (λd=>c (Ta.out.2.2 y d))),⟨H.1.trans o.2.2.1.root,H.2.1.trans o.2.2.2.root,H.2.2.trans o.2.1⟩⟩
def Ae(h:mD w B F A st tr)(g x:Nat)(p:x∈(tr g).nodes):
  Calls prog 251 #[B.n0,(x:Int)] w λe w'=>e=.returned true/\ae (B.blk F) w w'/\
   mD w' B F (aS A x) (dw st (IW A (tr g) x).2) (λq=>if q=g then(IW A (tr g) x).1 else tr q):=by
 obtain⟨S,j,a⟩:=h;have k:=(a.mem g x).1 p;have m:bY A (x:Int)=true:=(aj A x).2 ⟨k.2.1,ω⟩;have e:=oM p;unfold IW;generalize (pathOf (tr g) x).1=P at *;generalize (pathOf (tr g) x).2.1=l at *;generalize (pathOf (tr g) x).2.2=r at *;have J:1<=g/\g<A.hs.length:=by have:=j.cells.ok.nat x k.2.1;omega
 have K:=j.cells.ok.h1;have s:=a.Az g;have n:=a.nd g;have u:=a.heap g;rw[e] at s n u;obtain⟨H,I,N⟩:=JR vB n u;refine(FU j m k.2.2 ω s n (λy d=>?_)).mono ?_
 .rw[←e] at d;have:=(a.mem g y).1 d;exact(aj A y).2 ⟨this.2.1,ω⟩
 .rintro M w' ⟨rfl,v,z,C,D,E,G⟩;refine⟨rfl,v,z,C.ext (λy=>?_),(xk.del (iV:=uL (aS A x) (λq=>if q=g then(ak P (aI pX A l r).1) else tr q)) a p D ?_ I (λy d=>E y (by rw[←e];exact d)) G (λq b=>?_))⟩
  .rw[←Db (A':=aS A x) (tr:=tr) (t:=ak P (aI pX A l r).1) (by rw[jm]) J y]
   by_cases c:y=(g:Int)
   .rw[Δ c]
    by_cases hp:P=[]
    .rw[Δ ⟨hp,c⟩]
    .rw[Γ (λh=>hp h.1),c];cases P with
     |nil=>exact absurd rfl hp
     |cons f L=>
      unfold pK;rw[Δ ω,π,e,kZ f L (.node x l r) (aI pX A l r).1]
   .rw[Γ c,Γ (λh=>c h.2)]
  .rw[e];exact H
  .have o:q<(aS A (x:Int)).hs.length:=by rw[jm];exact b
   unfold uL;rw[φ,ϑ,List.getElem?_range o]
   show(if q=g then ak P (aI pX A l r).1 else tr q).root=_
   by_cases i:q=g
   .rw[Δ i,Δ i]
   .rw[Γ i,Γ i];rw[φ,ϑ,List.getElem?_range b];rfl
def Dz(h:mD w B F A st tr)(g:Nat)(n:0<cZ A g):
  Calls prog 252 #[B.n0,(g:Int)] w λe w'=>∃m:Nat,dB A g=some m/\e=.returned (.tuple #[(m:Int),true])/\ae (B.blk F) w w'/\
   mD w' B F (aS A m) (dw st (IW A (tr g) m).2) (λq=>if q=g then(IW A (tr g) m).1 else tr q):=by
 have k:=FJ h g n;have kd:=λm b=>Ae h g m b;have a:∀m:Nat,(tr g).root=m->m∈(tr g).nodes:=λm b=>by
  have j:tr g≠.nil:=λe=>by rw[e] at b;have:(-1:Int)=m:=b;omega
  have:=(cB j).1;rw[b] at this;simpa using this
 clear h
 go_enter func252,ntmps252
 go_wp2_with (first
  |(((with_reducible refine k.mono ?_));rintro e o ⟨m,c,d,rfl,rfl⟩;(have l:=kd m (a m d)))
  | (((with_reducible refine l.mono ?_));rintro e p ⟨rfl,f,i⟩))
 go_ret2;exact⟨m,c,rfl,f,i⟩
end
noncomputable def UJ(A':NS)(t:BT)(x:Nat):BT×Nat:=
 match(pathOf t x).1 with
 | []=>(t,0)
 |_::_=>aI pX A' (ak (pathOf t x).1 .nil) (.node x (pathOf t x).2.1 (pathOf t x).2.2)
section
variable{w:World}{B:SB}{F:List Nat}{A:NS}{st:Nat}{tr:Nat->BT}{S:TS}{f:Int->Option Int}
def Gi(w':World)(B:SB)(F:List Nat)(A':NS)(st:Nat)(S:TS)(f:Int->Option Int)(g:Nat)(X:List Nat)(T:BT):Prop:=
 ∃S' f',oI w' B F A' st S' f'/\dL S' (-1) T.root T/\(∀y,y∉X->S.at S' y)/\∀y,f' y=if y=(g:Int) then(if T.root=-1 then none else some T.root) else f y
def TH(m:oI w B F A st S f){g x:Nat}{l r:BT}{k s:Int}(hk:-9223372036854775808<=k/\k<=9223372036854775807/\0<=s/\s<=18446744073709551615)(H:iX A x k s=true)
  (I:(A.c x).i=g) (hg0:0<g) (d:f (g:Int)=some (x:Int)) (j:x<A.cs.length) (J:dL S (-1) (BT.node x l r).root (.node x l r)):
  Calls prog 250 #[B.n0,(x:Int),.agg #[k,.int .u64 s]] w λe w'=>e=.returned true/\ae (B.blk F) w w'/\
   Gi w' B F (aA A x k s) st S f g (BT.node x l r).nodes (.node x l r):=by
 have n:=gD A x k s;have o:bY (aA A x k s) (x:Int)=true:=(aj _ x).2 ⟨by rw[n];exact j,by rw[iW H j,I];omega⟩;have u:((aA A x k s).c x).i=g:=by rw[iW H j,I]
 have v:S.u x=-1:=J.2.1;have z:ae [] w (w.alloc (.cells #[k,.int .u64 s] 97)):=(ae.refl _ _).alloc _;have L:=λW (G:ae [] (w.alloc (.cells #[k,.int .u64 s] 97)) W)=>iR (m.cells.ag (z.trans G)) x k s hk H;have M:=m.h0;have R:B.n0∉F:=m.bQ.1;have p:=m.lt;have q:w.heap.size∉F:=λhm=>by have:=p w.heap.size (by simp[SB.blk,hm]);omega
 have T:∀W,ae F (w.alloc (.cells #[k,.int .u64 s] 97)) W->W.cell? B.n0=some (B.c:V):=λW G=>G.kept (z.was M) R;have U:∀W,ae F (w.alloc (.cells #[k,.int .u64 s] 97)) W->W.cell? w.heap.size=some (k:V):=λW h=>h.kept σ q;have X:∀W,ae F (w.alloc (.cells #[k,.int .u64 s] 97)) W->W.cell? ⟨w.heap.size,1,none⟩=some (.int .u64 s):=λW h=>h.kept σ q;have Y:=χ m;have N:=χ (ψ d J);clear m J d p M I;generalize hA':aA A x k s=A' at *
 go_enter func250,ntmps250
 go_wp2
 go_region_held3 (ae F (w.alloc (.cells #[k,.int .u64 s] 97))) (exact ν)
  (((with_reducible refine(L _ β).mono ?_);rintro e P ⟨rfl,K,t⟩;(have a:ae F (w.alloc (.cells #[k,.int .u64 s] 97)) P:=ν)))
 have C:ae F w (w.alloc (.cells #[k,.int .u64 s] 97)):=z.mono σ;have b:=Y.out.cK (C.trans a) K (λy c=>Α c) n;have O:=bX b.cells x o;rw[u] at O;have Z:=b.h0;have D:=χ b;have E:=χ (C.trans a);clear T U X L t a K b C
 go_wp2_with (first
  |(((with_reducible refine O.mono ?_));rintro e Q ⟨rfl,i,a⟩;(have g21:=(D.out.cK a i (λy c=>Α c) rfl).h1);(have kc:=Hg B.bt B.ba A'.cs.length S (x:Int) Q (D.out.cK a i (λy c=>Α c) rfl).trees (by unfold qV;rw[Δ ω,π];exact v)))
  | ((with_reducible refine aP kc ?_)))
 go_ret;refine⟨rfl,(E.out.trans a).mono (λy c=>by simp only[SB.blk,ρ];simp[c]),S,f,D.out.cK a i (λy c=>Α c) rfl,N.out.2,λy _=>⟨rfl,rfl,rfl⟩,λy=>?_⟩
 by_cases e:y=(g:Int)
 .rw[Δ e,e,N.out.1,Γ (by show ¬(x:Int)=-1;omega)];rfl
 .rw[Γ e]
def X5(u:oI w B F A st S f){g x:Nat}{fr:Fr}{P:List Fr}{l r:BT}{k s:Int}(hk:-9223372036854775808<=k/\k<=9223372036854775807/\0<=s/\s<=18446744073709551615)(K:iX A x k s=true)
  (hg:(A.c x).i=g) (hg0:1<=g/\g<=65536) (v:Qc (f (g:Int))=(ak (fr::P) (.node x l r)).root) (hT:dL S (-1) (ak (fr::P) (.node x l r)).root (ak (fr::P) (.node x l r))) (hn:(ak (fr::P) (.node x l r)).nodes.Nodup)
  (n:∀y,y∈(ak (fr::P) (.node x l r)).nodes->bY A (y:Int)=true):
  Calls prog 250 #[B.n0,(x:Int),.agg #[k,.int .u64 s]] w λe w'=>e=.returned true/\ae (B.blk F) w w'/\
   Gi w' B F (aA A x k s) (dw st (aI pX (aA A x k s) (ak (fr::P) .nil) (.node x l r)).2) S f g (ak (fr::P) (.node x l r)).nodes (aI pX (aA A x k s) (ak (fr::P) .nil) (.node x l r)).1:=by
 have o:=gD A x k s;have p:x<A.cs.length:=by
  have:=n x (aJ.2 (Α (by simp[BT.nodes])));exact((aj A x).1 this).1
 have E:bY (aA A x k s) (x:Int)=true:=(aj _ x).2 ⟨by rw[o];exact p,by rw[iW K p,hg];omega⟩;have R:((aA A x k s).c x).i=g:=by rw[iW K p,hg]
 have T:∀y,y∈(ak (fr::P) (.node x l r)).nodes->bY (aA A x k s) (y:Int)=true:=λy c=>by
  have:=(aj A y).1 (n y c);exact(aj _ y).2 ⟨by rw[o];exact this.1,by rw[iW K p];exact this.2⟩
 have j:∀y,y∈(ak (fr::P) (.node x l r)).nodes->y<(aA A x k s).cs.length:=λy c=>((aj _ y).1 (T y c)).1;have m:=(aV (fr::P) (.node x l r)).nodup_iff.1 hn;rw[θ] at m;have G:(ak (fr::P) .nil).nodes.Nodup:=(aV (fr::P) .nil).nodup_iff.2 (by simpa[BT.nodes] using m.2.1);have U:∀y,y∈(ak (fr::P) .nil).nodes↔y∈ed (fr::P):=λy=>by rw[aJ];simp[BT.nodes]
 have uE:((ak (fr::P) .nil).nodes++(BT.node x l r).nodes).Nodup:=by
  rw[θ];exact⟨G,m.1,λa ha b hb e=>m.2.2 b hb a ((U a).1 ha) e.symm⟩
 have X:∀y,y∈(ak (fr::P) .nil).nodes++(BT.node x l r).nodes->y∈(ak (fr::P) (.node x l r)).nodes:=λy c=>by
  rw[τ,U] at c;rw[aJ];exact c.symm
 have H:(ak (fr::P) (.node x l r)).root=(ak (fr::P) .nil).root:=kZ _ _ _ _;rw[H] at v;obtain⟨mp, -⟩:=kK vB (aA A x k s) _ (ak (fr::P) .nil) (.node x l r) (Θ _);have Y:-1<=(aI pX (aA A x k s) (ak (fr::P) .nil) (.node x l r)).1.root/\(aI pX (aA A x k s) (ak (fr::P) .nil) (.node x l r)).1.root<=9223372036854775807:=by
  refine⟨A8 _,?_⟩
  by_cases e:(aI pX (aA A x k s) (ak (fr::P) .nil) (.node x l r)).1=.nil
  .rw[e];show(-1:Int)<=_;omega
  .have h1:=cB e;have h2:=j _ (X _ (mp.mem_iff.1 h1.1));have h3:=u.cells.ok.c1;rw[o] at h2;omega
 have Z:ae [] w (w.alloc (.cells #[k,.int .u64 s] 97)):=(ae.refl _ _).alloc _;have kp:=λW (hW:ae [] (w.alloc (.cells #[k,.int .u64 s] 97)) W)=>iR (u.cells.ag (Z.trans hW)) x k s hk K;have h0:=u.h0;have wC:B.n0∉F:=u.bQ.1;have I:=u.lt;have z:w.heap.size∉F:=λhm=>by have:=I w.heap.size (by simp[SB.blk,hm]);omega
 have r0:∀W,ae F (w.alloc (.cells #[k,.int .u64 s] 97)) W->W.cell? B.n0=some (B.c:V):=λW hW=>hW.kept (Z.was h0) wC;have r1:∀W,ae F (w.alloc (.cells #[k,.int .u64 s] 97)) W->W.cell? w.heap.size=some (k:V):=λW h=>h.kept σ z;have r2:∀W,ae F (w.alloc (.cells #[k,.int .u64 s] 97)) W->W.cell? ⟨w.heap.size,1,none⟩=some (.int .u64 s):=λW h=>h.kept σ z;have HM:=χ u;have qj:=u.cF;have J:=χ (ψ hT (ψ hn (ψ T j)));have HX:=χ (ψ uE X);clear u hT hn n T j m I h0 hg uE X G U H wC z mp
 generalize hA':aA A x k s=A' at *
 go_enter func250,ntmps250
 go_wp2
 go_region_held3 (ae F (w.alloc (.cells #[k,.int .u64 s] 97))) (exact ν)
  (((with_reducible refine(kp _ β).mono ?_);rintro e w1 ⟨rfl,gK,L⟩;(have d:ae F (w.alloc (.cells #[k,.int .u64 s] 97)) w1:=ν)))
 have uF:ae F w (w.alloc (.cells #[k,.int .u64 s] 97)):=Z.mono σ;have q:=HM.out.cK (uF.trans d) gK (λy c=>Α c) o;have kh:=bX q.cells x E;rw[R] at kh;have g10:=q.h0;have jZ:=χ q;have u01:=χ (uF.trans d);clear r0 r1 r2 kp L d gK q uF;have Im:∀C,ae F w1 C->aD C B.c F A' st->_:=λC d i=>pE (jZ.out.cK d i (λy c=>Α c) rfl).trees (f:=fr) (P:=P) (t:=.node x l r) J.out.1 J.out.2.1 J.out.2.2.2;rw[show BT.root (.node x l r)=(x:Int) from rfl,He] at Im;generalize cutV fr (.node x l r)=cv at Im
 go_wp2_with (first
  |(((with_reducible refine kh.mono ?_));rintro e C ⟨rfl,i,d⟩;(have g21:=(jZ.out.cK d i (λy c=>Α c) rfl).h1);(have kc:=Im C d i))
  |(((with_reducible refine kc.mono ?_));rintro e w3 ⟨rfl,D,S3,Dl,M,N,O⟩;(have jH:=(jZ.out.cK d i (λy c=>Α c) rfl).iT D Dl);(have kf:=mJ jH (g:Int) ω);rw[v] at kf;(have km:=sZ jH (ta:=ak (fr::P) .nil) (tb:=.node x l r) N M HX.out.1 (λy c=>J.out.2.2.1 y (HX.out.2 y c)));rw[show BT.root (.node x l r)=(x:Int) from rfl] at km)
  |((with_reducible refine aP kf ?_))
  |(((with_reducible refine km.mono ?_));rintro e w4 ⟨rfl,iK,S4,uD,Tc,Q⟩;(have kcr:=pV uD g _ ω Y))
  | (((with_reducible refine kcr.mono ?_));rintro e w5 ⟨rfl,dD,wY⟩))
 go_ret;refine⟨rfl,((((u01.out.trans d).mono (λy c=>by simp only[SB.blk,ρ];simp[c])).trans (D.mono (by simp[SB.blk]))).trans (iK.mono (λy c=>?_))).trans (dD.mono (by simp[SB.blk])),S4,_,wY,Tc,λy c=>gU (O y c) (Q y (λhm=>c (HX.out.2 y hm))),λy=>rfl⟩;simp only[ρ,ς,or_false] at c;simp only[SB.blk,ρ];rcases c with rfl|rfl
 .simp[qj]
 .simp
def WA(h:mD w B F A st tr)(g x:Nat)(D:x∈(tr g).nodes)(k s:Int)(K:-9223372036854775808<=k/\k<=9223372036854775807/\0<=s/\s<=18446744073709551615)(p:iX A x k s=true):
  Calls prog 250 #[B.n0,(x:Int),.agg #[k,.int .u64 s]] w λe w'=>e=.returned true/\ae (B.blk F) w w'/\
   mD w' B F (aA A x k s) (dw st (UJ (aA A x k s) (tr g) x).2) (λq=>if q=g then(UJ (aA A x k s) (tr g) x).1 else tr q):=by
 obtain⟨S,f,a⟩:=h;have c:=(a.mem g x).1 D;have e:=oM D;unfold UJ;generalize (pathOf (tr g) x).1=P at *;generalize (pathOf (tr g) x).2.1=l at *;generalize (pathOf (tr g) x).2.2=r at *;have G:1<=g/\g<A.hs.length:=by have:=f.cells.ok.nat x c.2.1;omega
 have Y:=f.cells.ok.h1;have u:=a.Az g;have v:=a.nd g;have H:=a.heap g;have i:=vz A tr g G;rw[e] at u v H i;obtain⟨M,E⟩:=Jm p c.2.1 v H;have j:∀w' T b,Gi w' B F (aA A x k s) b S (pK A tr) g (tr g).nodes T->T.nodes.Perm (tr g).nodes->Heap (aA A x k s) T->mD w' B F (aA A x k s) b (λq=>if q=g then T else tr q):=λw' T b d hp Z=>by
  obtain⟨N,f',O,Q,R,U⟩:=d;refine⟨N,O.ext (λy=>by rw[U y];exact Db (by rw[mX]) G y),xk.low (iV:=uL (aA A x k s) (λq=>if q=g then T else tr q)) a p D Q hp Z R (λq m=>?_)⟩;have z:q<(aA A x k s).hs.length:=by rw[mX];exact m
  unfold uL;rw[φ,ϑ,List.getElem?_range z]
  show(if q=g then T else tr q).root=_
  by_cases n:q=g
  .rw[Δ n,Δ n]
  .rw[Γ n,Γ n];rw[φ,ϑ,List.getElem?_range m];rfl
 cases P with
 |nil=>
  have C:pK A tr (g:Int)=some (x:Int):=by
   unfold pK;rw[Δ ω,π,e]
   show(if(x:Int)=-1 then none else some (x:Int))=_
   rw[Γ ω]
  refine(TH f K p c.2.2 c.1 C c.2.1 u).mono ?_;rintro L w' ⟨rfl,t,d⟩;have I:tr g=.node x l r:=e;refine⟨rfl,t,?_⟩
  show mD w' B F (aA A x k s) (dw st 0) (λq=>if q=g then tr g else tr q)
  rw[fG f.cells.oG];refine j w' _ st (by rw[I];exact d) (ό _) (by rw[I];exact E)
 |cons fr o=>
  refine(X5 f K p c.2.2 ω i u v (λy J=>?_)).mono ?_
  .rw[←e] at J;have:=(a.mem g y).1 J;exact(aj A y).2 ⟨this.2.1,ω⟩
  .rintro L w' ⟨rfl,t,d⟩;refine⟨rfl,t,?_⟩;obtain⟨W,X⟩:=kK vB (aA A x k s) _ (ak (fr::o) .nil) (.node x l r) (Θ _);have pn:((ak (fr::o) .nil).nodes++(BT.node x l r).nodes).Perm (tr g).nodes:=by
    rw[e];refine((aV (fr::o) .nil).append_right _).trans ?_;refine List.perm_append_comm.trans ?_;simp only[BT.nodes,Ϛ];exact(aV (fr::o) (.node x l r)).symm
   refine j w' _ _ (by rw[e];exact d) (W.trans pn) (X M E (pn.nodup_iff.2 (a.nd g)))
end
def Qs{A A':NS}{tr:Nat->BT}{a b:Nat}{t:BT}(d:A'.hs.length=A.hs.length)(f:1<=a/\a<A.hs.length)(g:1<=b/\b<A.hs.length)(e:a≠b)(k:Int):
  (if k=(b:Int) then(if(-1:Int)=-1 then none else some (-1)) else if k=(a:Int) then(if t.root=-1 then none else some t.root) else pK A tr k)=pK A' (λq=>if q=a then t else if q=b then .nil else tr q) k:=by
 unfold pK;rw[d]
 by_cases c:k=(b:Int)
 .subst c;rw[Δ rfl,Δ rfl,Δ ω,π];have:(λq=>if q=a then t else if q=b then .nil else tr q) b=.nil:=by
   grind
  rw[this];rfl
 .grind
section
variable{w:World}{B:SB}{F:List Nat}{A:NS}{st:Nat}{tr:Nat->BT}
def SF(h:mD w B F A st tr)(a b:Nat)(l:fQ A a b=true):
  Calls prog 254 #[B.n0,(a:Int),(b:Int)] w λe w'=>e=.returned true/\ae (B.blk F) w w'/\
   mD w' B F (az A a b) (dw st (Ep pX A tr a b).2) (λq=>if q=a then(Ep pX A tr a b).1 else if q=b then .nil else tr q):=by
 obtain⟨S,m,d⟩:=h;obtain⟨N,O,P⟩:=(dI _ _ _).1 l;have a1:=(aF _ _).1 N;have a2:=(aF _ _).1 O;have D:a≠b:=λe=>P (by rw[e]);have g:=eU A a b;have R:(az A a b).hs.length=A.hs.length:=by unfold az;rw[Δ l];simp
 have E:((tr a).nodes++(tr b).nodes).Nodup:=by
  rw[θ];refine⟨d.nd a,d.nd b,λx hx y c n=>?_⟩;have G:=(d.mem a x).1 hx;have T:=(d.mem b y).1 c;rw[n] at G;omega
 have i:∀y,y∈(tr a).nodes++(tr b).nodes->bY (az A a b) (y:Int)=true:=λy c=>by
  rw[aj,g,pO l];rw[τ] at c;rcases c with c|c
  .have:=(d.mem a y).1 c;refine⟨this.2.1,?_⟩
   show 0<(if _ then _ else _:Int)
   split<;>omega
  .have:=(d.mem b y).1 c;refine⟨this.2.1,?_⟩
   show 0<(if _ then _ else _:Int)
   split<;>omega
 obtain⟨C,Q⟩:=kK vB (az A a b) _ (tr a) (tr b) (Θ _);have U:=Q (oO l (d.heap a)) (oO l (d.heap b)) E;have X:=d.Az a;have Y:=d.Az b;have H:=vz A tr a ω;have I:=vz A tr b ω;have J:=m.cells.ok;have aa2:=J.h1
 have K:=O7 d J.c1 (t:=(aI pX (az A a b) (tr a) (tr b)).1) (λy c=>by
  have h1:=C.mem_iff.1 c;have:=(aj _ y).1 (i y h1)
  rw [g] at this;exact this.1)
 have L:1<=a/\a<A.hs.length:=ω;have X4:1<=b/\b<A.hs.length:=ω;unfold Ep
 have FI:Hid (∀ (W:World) (p:TS) (j:Nat),oI W B F (az A a b) j p (λk=>if k=(b:Int) then (if (-1:Int)=-1 then none else some (-1)) else if k=(a:Int) then (if (aI pX (az A a b) (tr a) (tr b)).1.root=-1 then none else some (aI pX (az A a b) (tr a) (tr b)).1.root) else pK A tr k)->dL p (-1) (aI pX (az A a b) (tr a) (tr b)).1.root (aI pX (az A a b) (tr a) (tr b)).1->
   (∀y,y∉(tr a).nodes++(tr b).nodes->S.at p y)->mD W B F (az A a b) j (λq=>if q=a then (aI pX (az A a b) (tr a) (tr b)).1 else if q=b then .nil else tr q)):=λW p j G T b4=>by
  refine⟨p,G.ext (Qs R L X4 D),(d.join l T C U b4 (iV:=uL (az A a b) (λq=>if q=a then(aI pX (az A a b) (tr a) (tr b)).1 else if q=b then .nil else tr q)) (λq hq=>?_)).OZ⟩;unfold uL;rw[R];simp only[φ,ϑ,List.getElem?_range hq,ϛ,Option.getD_some]
  by_cases e:q=a
  .rw[Δ e,Δ e]
  .rw[Γ e,Γ e]
   by_cases n:q=b
   .rw[Δ n,Δ n];rfl
   .rw[Γ n,Γ n]
 have kj:=mO m.cells a b l;have h0:=m.h0;have HM:=χ m;have r:=χ (ψ E (ψ i (ψ X Y)));have qj:=m.cF;clear m d E i C Q U X Y N O P a1 a2 J;generalize hA':az A a b=A' at *;generalize htra:tr a=ta at *;generalize htrb:tr b=tb at *
 go_enter func254,ntmps254
 go_wp2_with ((((with_reducible refine kj.mono ?_));rintro e w1 ⟨rfl,M,o⟩))
 have f:=HM.out.cK o M (λy c=>Α c) g;have Z:=mJ f (a:Int) ω;rw[H] at Z;have k2:=mJ f (b:Int) ω;rw[I] at k2;have km:=sZ f r.out.2.2.1 r.out.2.2.2 r.out.1 r.out.2.1;have jZ:=χ f;clear f M
 go_wp2_with (first
  |((go_at_call 258;(first|(with_reducible refine Z.mono ?_)|(with_reducible refine k2.mono ?_)));rintro e w9 ⟨rfl,rfl⟩)
  |(((with_reducible refine km.mono ?_));rintro e w2 ⟨rfl,s,S2,u,AY,v⟩;(have kc:=pV u a _ ω K))
  | ((go_at_call 256;(first|(with_reducible refine kc.mono ?_;rintro e w3 ⟨rfl,z,jH⟩;(have kd:=pV jH b (-1) ω ω))|(with_reducible refine kd.mono ?_;rintro e w4 ⟨rfl,iK,uD⟩)))))
 go_ret;refine⟨rfl,(((o.mono (λy c=>by simp only[SB.blk,ρ];simp[c])).trans (s.mono (λy c=>?_))).trans (z.mono (by simp[SB.blk]))).trans (iK.mono (by simp[SB.blk])),FI.out _ S2 _ uD AY v⟩;simp only[ρ,ς,or_false] at c;simp only[SB.blk,ρ];rcases c with rfl|rfl
 .simp[qj]
 .simp
end
def WY(n:Nat)(w:World)(h:n<=65536):
  Calls prog 68 #[(n:Int)] w λe w'=>∃B F,e=.returned (.tuple #[B.n0,(0:Int)])/\mD w' B F (NS.new n) 0 (λ_=>.nil)/\ae [] w w'/\∀x,x∈B.blk F->w.heap.size<=x:=by
 have y:=@run_makeMap prog
 go_enter func68,ntmps68
 go_wp2_with (first
  |(((with_reducible refine(pR n _ h).mono ?_));rintro e s ⟨c,F,rfl,q,f,t⟩)
  | (((with_reducible refine (yX n _ h).mono ?_));rintro e a ⟨bt,ba,rfl,j,d,u,v⟩))
 go_ret2;have l:(NS.new n).cs.length=n:=by simp[NS.new]
 have C:=f.size;have D:=d.size;have E:=j.head.lt;have G:=j.row.lt;have z:=q.lt;have m:=fK.made a;have A:((a.alloc (.map #[] 0)).heap.size)=a.heap.size+1:=by rw[Κ]
 have o:ae [] a (a.alloc (.map #[] 0)):=(ae.refl _ _).alloc _;have g:ae [] (a.alloc (.map #[] 0)) ((a.alloc (.map #[] 0)).alloc (.cells #[(c:Nat),(bt:Nat),.map (some a.heap.size)] 207)):=(ae.refl _ _).alloc _;have p:=o.trans g;have r:=eO (a.alloc (.map #[] 0)) [.pointer (some (c:Nat)),.pointer (some (bt:Nat)),.map (some a.heap.size)] 207;rw[A] at r;have b:∀x,s.heap.size<=x->x∉F:=λx i m=>by have:=z x m;omega
 refine⟨⟨a.heap.size+1,c,bt,ba,a.heap.size⟩,F,rfl,⟨TS.none,⟨r,(q.ag d).ag p,by rw[l];exact j.upd p σ σ,?_,⟨b _ (by simp only;omega),b _ (by simp only;omega),b _ (by simp only;omega),b _ (by simp only;omega)⟩,⟨⟨by simp only;omega,by simp only;omega,by simp only;omega⟩,by simp only;omega,by simp only;omega⟩⟩,(FW n).OZ⟩,(f.trans d).trans p,λx i=>?_⟩
 .refine(m.upd g σ).ext (λk=>?_);unfold pK
  split
  .rfl
  .rfl
 .simp only[SB.blk,ρ] at i;rcases i with rfl|rfl|rfl|rfl|i
  .omega
  .omega
  .omega
  .omega
  .exact t x i
section
variable{w:World}{B:SB}{F:List Nat}{A:NS}{st:Nat}{tr:Nat->BT}
def mD.make{w':World}{F':List Nat}(h:mD w B F A st tr)(f:¬65536<A.hs.length)(q:ae F w w')(r:aD w' B.c F' (aO A) st)(s:∀x,x∈F'->x∈F\/w.heap.size<=x):mD w' B F' (aO A) st tr:=by
 obtain⟨S,g,i⟩:=h;have j:=g.cells.ok;have l:(aO A).cs.length=A.cs.length:=by unfold aO;rw[Γ f]
 have m:(aO A).hs.length=A.hs.length+1:=by unfold aO;rw[Γ f];simp
 have d:=i.make j (by simp[uL]) f;have c:(tr A.hs.length)=.nil:=by
  cases e:tr A.hs.length with
  |nil=>rfl
  |node y a b=>
   exfalso;have:=(i.mem A.hs.length y).1 (by rw[e];simp[BT.nodes]);have n:=iH j ((aj A y).2 ⟨this.2.1,ω⟩);have:=(aF _ _).1 n
   grind
 refine⟨S,(g.cK q r s l).ext (λk=>?_),d.OZ⟩;unfold pK;rw[m]
 by_cases o:1<=k/\k<A.hs.length
 .grind
 .rw[Γ o]
  by_cases p:k=A.hs.length
  .subst p;rw[π,c]
   split
   .rfl
   .rfl
  .grind
end
def MR:VI 142 "Has" 123:=by intro p c W h;unfold method;obtain⟨m,h1,h2,h3,h4⟩:=xA Tryz.t142.methods "Has" [⟨207,0,true⟩] 123 (by kernel_rfl);exact xD
def Hz:VI 142 "Entry" 121:=by intro p c W h;unfold method;obtain⟨m,h1,h2,h3,h4⟩:=xA Tryz.t142.methods "Entry" [⟨207,0,true⟩] 121 (by kernel_rfl);exact xD
def II:VI 142 "Make" 140:=by intro p c W h;unfold method;obtain⟨m,h1,h2,h3,h4⟩:=xA Tryz.t142.methods "Make" [⟨207,0,true⟩] 140 (by kernel_rfl);exact xD
def Sj:MI 142 "Insert" 253:=λ_ _=>by kernel_rfl
def aca:MI 142 "Min" 255:=λ_ _=>by kernel_rfl
def Nv:MI 142 "Extract" 252:=λ_ _=>by kernel_rfl
def Ko:MI 142 "Decrease" 250:=λ_ _=>by kernel_rfl
def SkQ(w:World)(p:Nat)(F:List Nat)(A:NS):Prop:=∃B F1 st tr,p=B.n0/\F=B.blk F1/\mD w B F1 A st tr
def x8:NestQ where
 ty:=142
 at_:=SkQ
 upd:=λh hu hS=>by
  obtain⟨B,F1,st,tr,rfl,rfl,hL⟩:=h;exact⟨B,F1,st,tr,rfl,rfl,hL.upd hu hS⟩
 lt:=λh=>by
  obtain⟨B,F1,st,tr,rfl,rfl,S,hM, -⟩:=h;exact hM.lt
 ok:=λh=>by
  obtain⟨B,F1,st,tr,rfl,rfl,S,hM, -⟩:=h;exact hM.cells.ok
 make:=λ{w p F A} h=>by
  obtain⟨B,F1,st,tr,rfl,rfl,hL⟩:=h;have h0:w.cell? B.n0=some (B.c:V):=by obtain⟨S,hM, -⟩:=hL;exact hM.h0
  refine dQ 140 (λ_ _=>by kernel_rfl) h0 (II _ _) (λW hW=>?_);have jT:=hL.ag hW;have hC:aD W B.c F1 A st:=by obtain⟨S,hM, -⟩:=jT;exact hM.cells
  refine(jg hC).mono ?_;rintro e w' ⟨rfl,F',hC2,hu,hf⟩;have hu2:ae (B.blk F1) W w':=hu.mono (λz hz=>by simp only[SB.blk,ρ];simp[hz]);have hf2:∀z,z∈B.blk F'->z∈B.blk F1\/W.heap.size<=z:=λz hz=>by
   simp only[SB.blk,ρ] at hz ⊢;rcases hz with rfl|rfl|rfl|rfl|hz
   .simp
   .simp
   .simp
   .simp
   .rcases hf z hz with h1|h1
    .simp[h1]
    .exact Β h1
  refine⟨rfl,B.blk F',?_,hu2,hf2⟩
  by_cases hl:65536<A.hs.length
  .have e2:aO A=A:=by unfold aO;rw[Δ hl]
   rw[e2] at hC2 ⊢;obtain⟨S,hM,hI⟩:=jT;exact⟨B,F',st,tr,rfl,rfl,S,hM.cK hu hC2 hf rfl,hI⟩
  .exact⟨B,F',st,_,rfl,rfl,jT.make hl hu hC2 hf⟩
 insert:=λ{w p F A} g y k s hk hB h=>by
  obtain⟨B,F1,st,tr,rfl,rfl,hL⟩:=h;refine aL 253 (λ_ _=>by kernel_rfl) (Sj _) (λW hW=>?_);refine(Ip (hL.ag hW) g y k s hk hB).mono ?_;rintro e w' ⟨rfl,hu,hL2⟩;exact⟨rfl,Goes.stay ⟨B,F1,_,_,rfl,rfl,hL2⟩ hu⟩
 min:=λ{w p F A} y hB h=>by
  obtain⟨B,F1,st,tr,rfl,rfl,hL⟩:=h;refine aL 255 (λ_ _=>by kernel_rfl) (aca _) (λW hW=>?_);have jT:=hL.ag hW;have hok:A.Ok:=by obtain⟨S,hM, -⟩:=hL;exact hM.cells.ok
  by_cases hl:cZ A (y:Int)=0
  .rw[iQ.2 hl];have h4:=(aF _ _).1 hB;have h5:=hok.h1;refine(Ri jT y ω hl).mono ?_;rintro e w' ⟨rfl,rfl⟩;exact⟨rfl,Goes.stay ⟨B,F1,st,tr,rfl,rfl,jT⟩ (ae.refl _ _)⟩
  .refine(FJ jT y ω).mono ?_;rintro e w' ⟨m,hm, -,rfl,rfl⟩;rw[hm];exact⟨rfl,Goes.stay ⟨B,F1,st,tr,rfl,rfl,jT⟩ (ae.refl _ _)⟩
 extract:=λ{w p F A} y m hm h=>by
  obtain⟨B,F1,st,tr,rfl,rfl,hL⟩:=h;refine aL 252 (λ_ _=>by kernel_rfl) (Nv _) (λW hW=>?_);have hl:¬cZ A (y:Int)=0:=λe=>by rw[iQ.2 e] at hm;cases hm
  refine(Dz (hL.ag hW) y ω).mono ?_;rintro e w' ⟨m',hm',rfl,hu,hL2⟩;rw[hm] at hm';cases hm';exact⟨rfl,Goes.stay ⟨B,F1,_,_,rfl,rfl,hL2⟩ hu⟩
 nC:=λ{w p F A} y k s hk hB h=>by
  obtain⟨B,F1,st,tr,rfl,rfl,hL⟩:=h;refine aL 250 (λ_ _=>by kernel_rfl) (Ko _) (λW hW=>?_);have jT:=hL.ag hW;have hin:=tN hB;have hx:y∈(tr (A.c y).i.toNat).nodes:=by
   obtain⟨S,hM,hI⟩:=jT;have:=(aj _ _).1 hin;exact(hI.mem _ y).2 ⟨ω,this.1,ω⟩
  refine(WA jT _ y hx k s hk hB).mono ?_;rintro e w' ⟨rfl,hu,hL2⟩;exact⟨rfl,Goes.stay ⟨B,F1,_,_,rfl,rfl,hL2⟩ hu⟩
 has:=λx h=>by
  obtain⟨B,F1,st,tr,rfl,rfl,S,hM, -⟩:=h;exact dQ 123 (λ_ _=>by kernel_rfl) hM.h0 (MR _ _) (λW hW=>jQ (hM.ag hW).cells x)
 entry:=λ{w p F A} x h=>by
  obtain⟨B,F1,st,tr,rfl,rfl,S,hM, -⟩:=h;refine dQ 121 (λ_ _=>by kernel_rfl) hM.h0 (Hz _ _) (λW hW=>?_);cases hin:bY A x with
  |false=>simpa using mH (hM.ag hW).cells x hin
  |true=>
   obtain⟨y,rfl⟩:=sO hin;simpa using lg (hM.ag hW).cells y hin
def NR(p:Nat)(w:World):Calls prog 67 #[p,(0:Int)] w λe w'=>e=.returned (.tuple #[.iface 142 (.pointer (some p)),(0:Int)])/\w'=w:=by
 go_enter func67,ntmps67
 go_wp2;go_ret2;exact⟨rfl,rfl⟩
def Jy(n:Nat)(l:n<=65536):qG x8 7 0 n:=by
 intro w;have i:=λW=>WY n W l;have j:=NR;have c:x8.ty=142:=rfl;have a:∀w' B F,mD w' B F (NS.new n) 0 (λ_=>.nil)->x8.at_ w' B.n0 (B.blk F) (NS.new n)/\IL w' B.n0 n:=λw' B F h=>⟨⟨B,F,_,_,rfl,rfl,h⟩,by obtain⟨S,f, -⟩:=h;exact⟨_,_,f.h0,f.cells⟩⟩
 generalize x8=K at *;rw[c]
 go_enter func35,ntmps35
 go_wp2_with (first
  |(((with_reducible refine(i _).mono ?_));rintro e m ⟨B,F,rfl,d,b,g⟩)
  | (((with_reducible refine (j _ _).mono ?_));rintro e o ⟨rfl,rfl⟩))
 go_ret2;exact⟨B.n0,B.blk F,rfl,(a _ _ _ d).1,(a _ _ _ d).2,ae.trans β b,λx k=>by have:=g x k;simp at this;omega⟩
