/-
  Lemmas.
-/
import Derived.Test.YtnpdakpagnpanaaGreatE27
set_option linter.all false
set_option maxHeartbeats 8000000
set_option maxRecDepth 10000
namespace Go.Proofs.YtnpdakpagnpanaaGreat
open Tryz
open Go Go.RowKit
def PM(w:World)(b:Nat)(v:Value):Prop:=∃(x0 x1 x6:Int) (a2:Option Addr) (n2 c2:Nat) (a3:Option Addr) (n3 c3:Nat) (a4:Option Addr) (n4 c4:Nat) (a5:Option Addr) (n5 c5:Nat),v=.agg #[x0,.int .u32 x1,.slice a2 n2 c2,.slice a3 n3 c3,.slice a4 n4 c4,.slice a5 n5 c5,.int .u64 x6]/\D7 w b x0 x1 (.slice a2 n2 c2) (.slice a3 n3 c3) (.slice a4 n4 c4) (.slice a5 n5 c5) x6/\Z7 w b
def PM.upd{w w':World}{S:List Nat}{b:Nat}{v:Value}(h:PM w b v)(c:ae S w w')(d:b∉S):PM w' b v:=by
 obtain⟨f,g,i,j,k,l,m,n,o,p,q,r,s,t,u,e,a,x⟩:=h;exact⟨f,g,i,j,k,l,m,n,o,p,q,r,s,t,u,e,a.kept c d,x.kept a c d⟩
structure G9(K:mE)(w0 w:World)(p:Nat)(F G:List Nat)(kd d:Int)(S T:St)(b:Nat)(dv v:Value)(l:List Hd):Prop where
 a:oz K w p F kd d S
 doc:bE w G dv T
 box:PM w b dv
 own:w.ownsRow w0.heap.size 46 2 v l.length (uf l)
 upd:ae [] w0 w
 gl:∀x,x∈G->x<w.heap.size
 gF:∀x,x∈F->x∈G/\w0.heap.size<=x
 gb:b∈G/\w0.heap.size<=b/\b∉F
 gv:∀k,v.ownBlock=some k->k∈G/\k≠b/\k∉F
 gen:∀p,p∈l->0<=p.2/\p.2<=4294967295
section
variable{K:mE}{w0 w:World}{p:Nat}{F G:List Nat}{kd d:Int}{S T:St}{b:Nat}{dv v:Value}{l:List Hd}
def G9.ag{w':World}(h:G9 K w0 w p F G kd d S T b dv v l)(a:ae [] w w'):G9 K w0 w' p F G kd d S T b dv v l:=
 ⟨bR.ag h.a a,h.doc.ag a,h.box.upd a σ,au h.own a σ,h.upd.trans a,λx c=>Ψ (h.gl x c) a.size,h.gF,h.gb,h.gv,h.gen⟩
def G9.hds(h:G9 K w0 w p F G kd d S T b dv v l):kY w [] v l:=kY.jd h.own σ
def G9.go(h:G9 K w0 w p F G kd d S T b dv v l){w':World}{F':List Nat}{m:St}(n:oz K w' p F' kd d m)(g:ae F w w')(j:∀x,x∈F'->x∈F\/w.heap.size<=x):G9 K w0 w' p F' (F'++G) kd d m T b dv v l:=by
 have hs:=h.upd.size;have i:=g.size;have c:∀k,k∈G->k∉F->k∉F':=λk f o q=>by
  rcases j k q with e|e
  .exact o e
  .have:=h.gl k f;omega
 refine⟨n,h.doc.fresh (g.mono (λx a=>(h.gF x a).1)) (λx a=>?_),h.box.upd g h.gb.2.2,au h.own g (λk f=>(h.gv k f).2.2),h.upd.joined g (λx a=>Β (h.gF x a).2),λx a=>?_,λx a=>⟨τ.2 (Α a),?_⟩,⟨τ.2 (Β h.gb.1),h.gb.2.1,c b h.gb.1 h.gb.2.2⟩,λk f=>⟨τ.2 (Β (h.gv k f).1),(h.gv k f).2.1,c k (h.gv k f).1 (h.gv k f).2.2⟩,h.gen⟩
 .rcases τ.1 a with e|e
  .rcases j x e with e|e
   .exact Α (h.gF x e).1
   .exact Β e
  .exact Α e
 .rcases τ.1 a with e|e
  .exact bR.lt n x e
  .exact Ψ (h.gl x e) i
 .rcases j x a with e|e
  .exact(h.gF x e).2
  .omega
def G9.turn(h:G9 K w0 w p F G kd d S T b dv v l){g V:World}{T':St}{c:Value}(m:bE g G c T')(n:ae [] w g)(e:ae [b] g V)(o:PM V b c):G9 K w0 V p F G kd d S T' b c v l:=by
 have f:=h.ag n;refine⟨bR.upd f.a e (λx a=>?_),m.fresh (e.mono (λx a=>?_)) (λx a=>Α a),o,au f.own e (λk i j=>?_),f.upd.joined e (λx a=>Β ?_),λx a=>Ψ (f.gl x a) e.size,h.gF,h.gb,h.gv,h.gen⟩
 .rcases ϒ.1 a with rfl;exact h.gb.2.2
 .rcases ϒ.1 a with rfl;exact h.gb.1
 .exact(h.gv k i).2.1 (ϒ.1 j)
 .rcases ϒ.1 a with rfl;exact h.gb.2.1
def G9.push(h:G9 K w0 w p F G kd d S T b dv v l){w':World}{v':Value}{q:Hd}(r:w'.ownsRow w0.heap.size 46 2 v' (l.length+1) (uf (l++[q])))(i:ae v.ownBlock.toList w w')(s:v'.ownBlock=v.ownBlock\/v'.ownBlock=some w.heap.size)(t:0<=q.2/\q.2<=4294967295):G9 K w0 w' p F (v'.ownBlock.toList++G) kd d S T b dv v' (l++[q]):=by
 have m:=bR.lt h.a;have c:∀(v:Value) x,x∈v.ownBlock.toList->v.ownBlock=some x:=λv x a=>by simpa using a
 have f:∀k,v'.ownBlock=some k->v.ownBlock=some k\/k=w.heap.size:=λk g=>by
  rcases s with e|e
  .exact Α (e▸g)
  .rw[e] at g;exact Β (Option.some.inj g).symm
 refine⟨bR.upd h.a i (λx a=>(h.gv x (c v x a)).2.2),h.doc.fresh (i.mono (λx a=>(h.gv x (c v x a)).1)) (λx a=>?_),h.box.upd i (λj=>(h.gv b (c v b j)).2.1 rfl),by grind,h.upd.joined i (λx a=>Β (h.own.lt x (c v x a)).1),λx a=>?_,λx a=>⟨τ.2 (Β (h.gF x a).1),(h.gF x a).2⟩,⟨τ.2 (Β h.gb.1),h.gb.2⟩,λk g=>⟨τ.2 (Α (by grind)),?_⟩,λn o=>?_⟩
 .rcases τ.1 a with e|e
  .rcases f x (c v' x e) with e|e
   .exact Α (h.gv x e).1
   .exact Β ω
  .exact Α e
 .rcases τ.1 a with e|e
  .exact(r.lt x (c v' x e)).2
  .exact Ψ (h.gl x e) i.size
 .rcases f k g with e|e
  .exact(h.gv k e).2
  .subst e;exact⟨λu=>by have:=h.gl b h.gb.1;omega,λj=>by grind⟩
 .rcases τ.1 o with e|e
  .exact h.gen n e
  .rcases ϒ.1 e with rfl;exact t
def RV{a b:Int}{c d j k q:Value}(h:bE w F (.agg #[a,.int .u32 b,c,d,j,k,q]) S)(u:S.q<=1000000):Calls prog 28 #[.agg #[a,.int .u32 b,c,d]] w λe w'=>e=.returned (S.R.cnt:Int)/\ae [] w w':=by
 obtain⟨vT,vG,l,m,n,o,p,r,T,G,e,f,g,s,i,t⟩:=h;simp at e;obtain⟨rfl,rfl,rfl,rfl,rfl,rfl,rfl⟩:=e;exact IQ f g _ _ S.R.cnt i.cnt ω
def YN{l m n o i j q:Value}(h:bE w F (.agg #[l,m,n,o,i,j,q]) S)(p:S.Ok)(x:Int):Calls prog 29 #[.agg #[i,j],x] w λe w'=>e=.returned (cZ S.A x:Int)/\ae [] w w':=by
 obtain⟨vT,vG,a,b,c,d,f,g,T,G,e,r,s,k,t,u⟩:=h;simp at e;obtain⟨rfl,rfl,rfl,rfl,rfl,rfl,rfl⟩:=e;exact D9 (⟨a,b,c,d,f,g,rfl,k⟩:gM w F (ic a b c d f g S.A) S.A) p.1 x
def R6{b c d f g q:Value}{i:Option Addr}{a j:Nat}(h:bE w F (.agg #[b,c,d,f,.slice i a j,g,q]) S):a=S.A.hs.length:=by
 obtain⟨vT,vG,k,l,m,n,o,p,T,G,e,r,s,t,u,v⟩:=h;simp at e;exact e.2.2.2.2.1.2.1
end
def MX(w:World)(f g n m:Int)(r:0<=n/\n<=255)(s:0<=m/\m<=4294967295)(o:Option Addr)(d cap:Nat)(h:60<d\/BP f g m=false):
  Calls prog 6 #[.agg #[f,g,.int .u8 n,.int .u32 m],.slice o d cap] w λe w'=>e=.returned true/\ae [] w w':=by
 have q:=λW=>YB W f g n m r s;have y:=λW=>Y9 W f g n m;generalize BP f g m=B at *;clear r s
 go_enter func6,ntmps6
 (go_upto_region 1 with(fail);refine aU (λX=>X.cell? w.heap.size=some (f:V)/\X.cell? ⟨w.heap.size,1,none⟩=some (g:V)/\X.cell? ⟨w.heap.size,2,none⟩=some (.int .u8 n)/\X.cell? ⟨w.heap.size,3,none⟩=some (.int .u32 m)/\w.heap.size<X.heap.size/\ae [] w X) ⟨γ,γ,γ,γ,σ,β⟩ ?_;rintro W ⟨i,g1,g2,j,a,t⟩)
 go_upto_region 4 with (first
  |(((with_reducible refine(Af _).mono ?_));rintro e u ⟨rfl,b⟩;((have i:=(b).was i);(have g1:=(b).was g1);(have g2:=(b).was g2);(have j:=(b).was j);(have a:=Ψ a (b).size));(have l:ae [] w u:=t.trans b))
  | (((with_reducible refine (q _).mono ?_));rintro e v ⟨C,D,rfl,⟨E,F,G,H,I,J,K,L,M,N,O,P,Q,R,S,rfl⟩,c⟩;((have i:=(c).was i);(have g1:=(c).was g1);(have g2:=(c).was g2);(have j:=(c).was j);(have a:=Ψ a (c).size));(have p:=l.trans c)))
 (refine aU (λX=>X.cell? w.heap.size=some (f:V)/\X.cell? ⟨w.heap.size,1,none⟩=some (g:V)/\X.cell? ⟨w.heap.size,2,none⟩=some (.int .u8 n)/\X.cell? ⟨w.heap.size,3,none⟩=some (.int .u32 m)/\w.heap.size<X.heap.size/\ae [] (v) X) ⟨γ,γ,γ,γ,ζ,β⟩ ?_;clear i g1 g2 j a;rintro X ⟨i,g1,g2,j,a,k⟩)
 have k:=p.trans k;clear q
 by_cases A:60<d
 .have z:decide ((d:Int) > 60)=true:=Ν ω;clear h;go_wp2;go_ret;exact⟨rfl,k⟩
 .have z:decide ((d:Int) > 60)=false:=Ξ ω;obtain rfl:B=false:=by simpa[A] using h
  clear h
  go_wp2_with ((((with_reducible refine(y _).mono ?_));rintro e T ⟨rfl,x⟩))
  go_ret;exact⟨rfl,k.trans x⟩
def Lg(w:World)(I J:Int)(n m:Nat)(hn:n<=255)(hm:1<=m/\m<=4294967295)(hc1:xe I J=0)(v:Value)(d:Nat)(f:Nat->Ac)(hS:VL w v d f)(hl:d<=60):
  Calls prog 6 #[.agg #[I,J,.int .u8 n,.int .u32 m],v] w λe w'=>e=.returned true/\ae [] w w':=by
 obtain⟨o,cap,rfl, -,q,hcell⟩:=hS;have aey:=Nat.mod_lt n (show 30 > 0 by omega);obtain⟨K1,ko1⟩:=Df I J (n % 30) hc1 ω;have ka:=λW=>Eo W I J n m hn hm hc1 ko1;have hD:decide ((d:Int) > 60)=false:=Ξ ω;have HR:=χ (ψ q hcell);clear hn hm hc1 ko1 q hcell aey;generalize hSg:(⟨AR.new (n % 30) m,NS.new (n % 30),0⟩:St)=S0 at *;have hS0q:S0.q=0:=by rw[←hSg]
 clear hSg;have HQ:=χ hS0q;clear hS0q
 go_enter func6,ntmps6
 (go_upto_region 1 with(fail);refine aU (λX=>X.cell? w.heap.size=some (I:V)/\X.cell? ⟨w.heap.size,1,none⟩=some (J:V)/\X.cell? ⟨w.heap.size,2,none⟩=some (.int .u8 n)/\X.cell? ⟨w.heap.size,3,none⟩=some (.int .u32 m)/\w.heap.size<X.heap.size/\ae [] w X) ⟨γ,γ,γ,γ,σ,β⟩ ?_;rintro W ⟨g0,g1,g2,g3,K,c⟩)
 go_upto_region 4 with (first
  |(((with_reducible refine(Af _).mono ?_));rintro e w1 ⟨rfl,E⟩;((have g0:=(E).was g0);(have g1:=(E).was g1);(have g2:=(E).was g2);(have g3:=(E).was g3);(have K:=Ψ K (E).size));(have hw1:ae [] w w1:=c.trans E))
  | (((with_reducible refine (ka _).mono ?_));rintro e w2 ⟨pa,Fa,v2,rfl,hPa,hDa,F,hfa⟩;obtain ⟨x0,x1,x6,a2,n2,c2,a3,n3,c3,a4,g,c4,a5,n5,c5,rfl⟩:=hDa.agg;((have g0:=(F).was g0);(have g1:=(F).was g1);(have g2:=(F).was g2);(have g3:=(F).was g3);(have K:=Ψ K (F).size));(have hw2:=hw1.trans F)))
 have hfa':∀x,x∈Fa->w.heap.size<=x:=λx hx=>by have:=hfa x hx;have:=hw1.size;omega
 have hA:=χ (ψ hPa (ψ hDa hfa'));clear hPa hDa hfa hfa';refine aU (λX=>(D7 X w2.heap.size x0 x1 (.slice a2 n2 c2) (.slice a3 n3 c3) (.slice a4 g c4) (.slice a5 n5 c5) x6/\Z7 X w2.heap.size)/\X.cell? w.heap.size=some (I:V)/\X.cell? ⟨w.heap.size,1,none⟩=some (J:V)/\X.cell? ⟨w.heap.size,2,none⟩=some (.int .u8 n)/\X.cell? ⟨w.heap.size,3,none⟩=some (.int .u32 m)/\w.heap.size<X.heap.size/\ae [] w2 X) ⟨⟨{},{}⟩,γ,γ,γ,γ,ζ,β⟩ ?_;clear g0 g1 g2 g3 K;rintro X ⟨⟨a,H⟩,g0,g1,g2,g3,K,N⟩;have Vm:=hw2.trans N;have hsX:=Vm.size
 have hblt:w2.heap.size<X.heap.size:=Ε _ _ a.c0
 have hC:=χ (ψ (bR.ag hA.out.1 N:oz K1 X pa Fa I J S0) (ψ Vm (ψ hA.out.2.2 (ψ (show ∀Y,ae [] X Y->bE Y ([X.heap.size,w2.heap.size]++Fa) (.agg #[(x0:Int),.int .u32 x1,.slice a2 n2 c2,.slice a3 n3 c3,.slice a4 g c4,.slice a5 n5 c5,.int .u64 x6]) S0 from λY L=>hA.out.2.1.fresh ((N.trans L).mono σ) (λx hx=>by rcases τ.1 hx with e|e;(exact Β (by simp at e;omega));exact Α e)) (ψ (show PM X w2.heap.size (.agg #[(x0:Int),.int .u32 x1,.slice a2 n2 c2,.slice a3 n3 c3,.slice a4 g c4,.slice a5 n5 c5,.int .u64 x6]) from⟨x0,x1,x6,a2,n2,c2,a3,n3,c3,a4,g,c4,a5,n5,c5,rfl,a,H⟩) (ψ (λx (hx:x∈Fa)=>bR.lt hA.out.1 x hx) hw2.size))))))
 clear hA N Vm hw2 hw1 E F ka a H;generalize w2.heap.size=C at *
 go_upto_region 7 with(fail)
 have HA:Hid (∀Y,Y=X.alloc (.cells #[] 46)->G9 K1 w Y pa Fa ([X.heap.size,C]++Fa) I J S0 S0 C (.agg #[(x0:Int),.int .u32 x1,.slice a2 n2 c2,.slice a3 n3 c3,.slice a4 g c4,.slice a5 n5 c5,.int .u64 x6]) (.slice (some X.heap.size) 0 0) []):=λY L=>by
  subst L;obtain⟨c1,c2,c3,c4,c5,c6,c7⟩:=hC.out;have hu:ae [] X (X.alloc (.cells #[] 46)):=(ae.refl _ _).alloc _;have M:=bR.lt c1;refine⟨bR.ag c1 hu,c4 _ hu,c5.upd hu σ,KT ω,c2.trans hu,λx hx=>?_,λx hx=>⟨τ.2 (Β hx),c3 x hx⟩,⟨σ,c7,λhm=>by have:=c6 _ hm;omega⟩,λk hk=>?_,λp hp=>(by cases hp)⟩
  .rcases τ.1 hx with e|e
   .simp at e ⊢;omega
   .have:=M x e;simp;omega
  .cases hk;exact⟨σ,by show X.heap.size≠C;omega,λhm=>absurd (M _ hm) (Nat.lt_irrefl _)⟩
 go_wp2
 go_loopw [8,10,11,12,13,14,43] (λv8 _ _ _ _ _ v43 wr=>∃(i:Nat) (l:List Hd) (Fa G:List Nat) (S:St) (dv:Value),i<=d/\v43=.int .i64 (i:Int)/\G9 K1 w wr pa Fa G I J S S C dv v8 l/\S.q<=i/\l.length<=i) (λ_ _ _ _ _ _ v43 _=>d-(intOf v43).toNat)
 case atStart=>exact⟨0,[],Fa,_,S0,_,Nat.zero_le _,rfl,HA.out _ rfl,by rw[HQ.out];exact Θ _,Θ _⟩
 case round=>
  clear HA hC;clear Fa;obtain⟨i,l,Fa,G,S,dv,hi,rfl,c,hq,hll⟩:=hrel;rename World=>wr;obtain⟨x0,x1,x6,a2,n2,c2,a3,n3,c3,a4,g,c4,a5,n5,c5,rfl,a,H⟩:=c.box
  by_cases hil:i<d
  .skip
   have hiI:(i:Int)<(d:Int):=ω;have hwi:IntKind.i64.wrap ((i:Int)+1)=(i:Int)+1:=Μ _ ω;obtain⟨b,off,rfl,hbl,hc⟩:=HR.out.2 i hil;have YS:=HR.out.1 i hil;have hcw:=hc.kept c.upd σ;generalize f i=A at *;clear hc;obtain⟨D,O,Q,R,gg,oo,kk⟩:=A;obtain⟨q0,q1,q2,q3,q4,q5,q6⟩:=hcw;dsimp only at q0 q1 q2 q3 q4 q5 q6;have kp:=λY (L:ae [] wr Y)=>Uf Y _ l ⟨D,O,Q,R,gg,oo,kk⟩ YS.wo (c.hds.ag L) ω;have hgen:=Qe ⟨D,O,Q,R,gg,oo,kk⟩ YS l c.gen;generalize BH ⟨D,O,Q,R,gg,oo,kk⟩ l=P at *;obtain⟨P1,P2⟩:=P
   have kda:=λY (L:ae [] wr Y)=>Um (bR.ag c.a L:oz K1 Y pa Fa I J S) ⟨D,O,Q,R,gg,oo,kk⟩ YS P1 P2 hgen ω;have kwa:=λY G' (hD:bE Y G' (.agg #[(x0:Int),.int .u32 x1,.slice a2 n2 c2,.slice a3 n3 c3,.slice a4 g c4,.slice a5 n5 c5,.int .u64 x6]) S) (hG':∀x,x∈G'->x<Y.heap.size)=>Oa (TZ hD (oz.ok c.a) hG' ω ⟨D,O,Q,R,gg,oo,kk⟩ P1 P2);have hrg:=Zp (oz.ok c.a) ⟨D,O,Q,R,gg,oo,kk⟩ P1 P2;have hrq:=aeM (S:=S) ⟨D,O,Q,R,gg,oo,kk⟩ P1 P2;generalize (Ac.run ⟨D,O,Q,R,gg,oo,kk⟩ S P1 P2)=z at *;obtain⟨S',rc,rh,rs,rg,rk,rn⟩:=z;unfold Ac.v at kp kda kwa;unfold Rp.v at kda kwa
   dsimp only at kp kda kwa hrg hrq;have M:=bR.lt c.a;have wC:=c.gb.2.2;have hb0:=c.gl C c.gb.1;obtain⟨a13,c13,rfl,hc13⟩:=bz c.own;have HW:=χ c;have HN:=χ (ψ hrg (ψ hrq (ψ hq hll)));clear c hrg hrq YS hgen hq hll;have hl9:l.length<=1000:=by have:=HN.out.2.2.2;omega
   generalize hln:l.length=ln at HN hc13 kp ⊢;have HLN:=χ hln;clear hln
   go_upto_region 11 with((((with_reducible refine(kp _ β).mono ?_));rintro e w3 ⟨rfl,hu3⟩))
   have hs3:=hu3.size;simp at hs3;refine aU (λY=>Q7 Y wr.heap.size D O Q R gg oo kk/\Q2 Y w3.heap.size P1 P2/\ae [] wr Y/\w3.heap.size<Y.heap.size) ⟨Q7.kept (S:=[]) (Q7.kept (W:=wr.alloc _) {} hu3 σ) β σ,{},((ae.refl _ _).alloc _).trans (hu3.trans β),σ⟩ ?_;rintro Y ⟨hp,ht,L,hYl⟩;clear hu3 kp q0 q1 q2 q3 q4 q5 q6;have b15a:wr.heap.size∉Fa:=λhm=>by have:=M _ hm;omega
   have b16a:w3.heap.size∉Fa:=λhm=>by have:=M _ hm;omega
   have kda':=kda Y L;clear kda;have H:=H.kept a L σ;have a:=a.kept L σ;obtain⟨p0,p1,p2,p3,p4,p5,p6⟩:=id hp;obtain⟨t0,t1⟩:=id ht
   go_upto_region 12 with((((with_reducible refine(kda').mono ?_));rintro e w4 ⟨rfl,F1,hP1,iK,hf1⟩;(have hp4:=hp.kept iK b15a);(have ht4:=ht.kept iK b16a);(have hd4:=a.kept iK wC);(have hz4:=H.kept a iK wC)))
   have hs4:=iK.size;refine aU (λZ=>Q7 Z wr.heap.size D O Q R gg oo kk/\Q2 Z w3.heap.size P1 P2/\Q6 Z w4.heap.size rc rh rs rg rk rn/\ae [] w4 Z/\w4.heap.size<Z.heap.size) ⟨hp4.kept (S:=[]) β σ,ht4.kept (S:=[]) β σ,{},β,σ⟩ ?_;clear p0 p1 p2 p3 p4 p5 p6 t0 t1 hp ht hp4 ht4;rintro Z ⟨hp,ht,hr,hZ,hZl⟩;have hz:=hz4.kept hd4 hZ σ;have hd:=hd4.kept hZ σ;have HV:=χ (((HW.out.ag L).go hP1 iK hf1).ag hZ);have kw:=kwa Z _ HV.out.doc HV.out.gl;have hG:=HV.out.gb.1;have hbZ:=HV.out.gl C hG;clear hP1 iK hf1 hZ L kda' kwa hd4 hz4 a H M b15a b16a wC hG;obtain⟨p0,p1,p2,p3,p4,p5,p6⟩:=id hp
   obtain⟨t0,t1⟩:=id ht;obtain⟨Z8,r,s,t,u,y,B⟩:=id hd
   go_upto_region 13 with((((with_reducible refine kw.mono ?_));rintro e w6 ⟨y0,y1,y6,b2,m2,e2,b3,m3,e3,b4,m4,e4,b5,m5,e5,rfl,hD6,iD⟩;(have hp6:=hp.kept iD σ);(have hr6:=hr.kept iD σ);(have hz6:=hz.kept hd iD σ);(have hd6:=hd.kept iD σ)))
   have hs6:=iD.size;refine aU (λV=>Q7 V wr.heap.size D O Q R gg oo kk/\Q6 V w4.heap.size rc rh rs rg rk rn/\D7 V C x0 x1 (.slice a2 n2 c2) (.slice a3 n3 c3) (.slice a4 g c4) (.slice a5 n5 c5) x6/\Z7 V C/\D7 V w6.heap.size y0 y1 (.slice b2 m2 e2) (.slice b3 m3 e3) (.slice b4 m4 e4) (.slice b5 m5 e5) y6/\Q6 V (w6.heap.size+1) rc rh rs rg rk rn/\ae [] w6 V/\w6.heap.size+1<V.heap.size) ⟨hp6.kept (S:=[]) β σ,hr6.kept (S:=[]) β σ,hd6.kept (S:=[]) β σ,hz6.kept (S:=[]) hd6 β σ,{},{},β,σ⟩ ?_;clear p0 p1 p2 p3 p4 p5 p6 t0 t1 Z8 r s t u y B hp ht hr hd hz hp6 hr6 hz6 hd6 kw
   rintro V ⟨hp,hr,hd,hz,hn7,Si,hV,hVl⟩;obtain⟨Z8,r,s,t,u,y,B⟩:=id hd;obtain⟨z0,z1,z2,z3,z4,z5,z6⟩:=id hz;obtain⟨n70,n71,n72,n73,n74,n75,n76⟩:=id hn7;have hbx4:w4.heap.size≠C:=ω;have hbx0:wr.heap.size≠C:=ω;have hbx6:w6.heap.size+1≠C:=ω
   go_upto_region 14 with(fail)
   refine aU (λU=>D7 U C y0 y1 (.slice b2 m2 e2) (.slice b3 m3 e3) (.slice b4 m4 e4) (.slice b5 m5 e5) y6/\Z7 U C/\ae [C] V U) ⟨{},{},by(iterate 7 (refine ae.setCell ?_ (Α σ) _));exact ae.refl _ _⟩ ?_;rintro U ⟨hdU,hzU,hU⟩;have hpU:=hp.kept hU (by simpa using hbx0);have hrU:=hr.kept hU (by simpa using hbx4);have hwU:=Si.kept hU (by simpa using hbx6);have HU:=χ (HV.out.turn (hD6.ag hV) (iD.trans hV) hU ⟨y0,y1,y6,b2,m2,e2,b3,m3,e3,b4,m4,e4,b5,m5,e5,rfl,hdU,hzU⟩);have hq1:S'.q<=1000000:=by have:=HN.out.2.1;have:=HN.out.2.2.1;omega
   have kc:=λX (N:ae [] U X)=>RV (HU.out.doc.ag N) hq1;have kl:=λX (N:ae [] U X)=>Ea (bR.ag HU.out.a N:oz K1 X pa F1 I J S');clear Z8 r s t u y B z0 z1 z2 z3 z4 z5 z6 n70 n71 n72 n73 n74 n75 n76 hp hr hd hz hn7 Si hV hU hD6 iD HV hzU;obtain⟨r0,r1,r2,r3,r4,r5⟩:=hrU.rules (S:=[]) σ;obtain⟨s0,s1,s2,s3,s4,s5⟩:=hwU.rules (S:=[]) σ;obtain⟨Z8,r,s,t,u,y,B⟩:=hdU.rules (S:=[]) σ;have acm:ae [] U U:=ae.refl _ _
   go_region_held3 (ae [] U) (repeat(first|(with_reducible assumption)|(with_reducible exact ae.refl _ _)|(with_reducible refine ae.drew ?_)|(with_reducible refine ae.alloc ?_ _)|(with_reducible refine ae.setCell ?_ ?_ _)|focus(left;simp;done)|focus(right;simp;done)|focus(right;simp;omega)))
    (first
     |(((with_reducible refine(kl _ (by(repeat(first|(with_reducible assumption)|(with_reducible exact ae.refl _ _)|(with_reducible refine ae.drew ?_)|(with_reducible refine ae.alloc ?_ _)|(with_reducible refine ae.setCell ?_ ?_ _)|focus(left;simp;done)|focus(right;simp;done)|focus(right;simp;omega))))).mono ?_));rintro e w7 ⟨rfl,rfl⟩)
     | (((with_reducible refine (kc _ (by (repeat (first|(with_reducible assumption)|(with_reducible exact ae.refl _ _)|(with_reducible refine ae.drew ?_)|(with_reducible refine ae.alloc ?_ _)|(with_reducible refine ae.setCell ?_ ?_ _)|focus (left;simp;done)|focus (right;simp;done)|focus (right;simp;omega))))).mono ?_));rintro e w8 ⟨rfl,A7⟩;(have hv8:ae [] U w8:=ae.trans (by (repeat (first|(with_reducible assumption)|(with_reducible exact ae.refl _ _)|(with_reducible refine ae.drew ?_)|(with_reducible refine ae.alloc ?_ _)|(with_reducible refine ae.setCell ?_ ?_ _)|focus (left;simp;done)|focus (right;simp;done)|focus (right;simp;omega)))) A7)))
   go_upto_region 16 with(fail)
   refine aU (λT=>Q7 T wr.heap.size D O Q R gg oo kk/\Q6 T w4.heap.size rc rh rs rg rk rn/\ae [] U T) ⟨hpU.kept hv8 σ,hrU.kept hv8 σ,hv8⟩ ?_;clear hv8 A7 kl kc Z8 r s t u y B r0 r1 r2 r3 r4 r5 s0 s1 s2 s3 s4 s5 hpU hrU hwU hdU acm;rintro T ⟨⟨p0,p1,p2,p3,p4,p5,p6⟩,⟨r0,r1,r2,r3,r4,r5⟩,hT⟩;have HT:Hid (G9 K1 w T pa F1 (F1++G) I J S' S' C (.agg #[(y0:Int),.int .u32 y1,.slice b2 m2 e2,.slice b3 m3 e3,.slice b4 m4 e4,.slice b5 m5 e5,.int .u64 y6]) (.slice a13 ln c13) l):=by
    rw[←HLN.out];exact HU.out.ag hT
   obtain⟨hrg,hrq,hq,hll0⟩:=HN.out;have hll:l.length<=i:=by rw[HLN.out];exact hll0
   have hsT:=HT.out.upd.size;have ho1:=HT.out.own;clear HU hT
   by_cases aaZ:D=2/\rc=0
   .obtain⟨rfl,rfl⟩:=aaZ
    go_upto_region 18 with (first
     | (at_builtin;refine FZ rfl _ _ rfl w.heap.size _ _ l rfl (au ho1 ((ae.refl [] _).alloc _) σ) _ (rs,rg) rfl γ γ ω ζ ?_;intro v7 w9 ho9 y9 hb9))
    refine aU (λX=>G9 K1 w X pa F1 (v7.ownBlock.toList++(F1++G)) I J S' S' C (.agg #[(y0:Int),.int .u32 y1,.slice b2 m2 e2,.slice b3 m3 e3,.slice b4 m4 e4,.slice b5 m5 e5,.int .u64 y6]) v7 (l++[(rs,rg)])) ((HT.out.ag ((ae.refl [] _).alloc _)).push ho9 y9 hb9 hrg) ?_;rintro X hOX;obtain⟨a14,c14,rfl, -⟩:=bz hOX.own;have HE:Hid (∃(m:List Hd) (G':List Nat),G9 K1 w X pa F1 G' I J S' S' C (.agg #[(y0:Int),.int .u32 y1,.slice b2 m2 e2,.slice b3 m3 e3,.slice b4 m4 e4,.slice b5 m5 e5,.int .u64 y6]) (.slice a14 (l++[(rs,rg)]).length c14) m/\m.length<=i+1):=⟨_,_,hOX,ζ⟩
    clear hOX ho9 y9 hb9 HT ho1 hll;generalize (l++[(rs,rg)]).length=ln' at *;have hqq:S'.q<=i+1:=ω;go_wp2
    go_roundw
    case rel=>obtain⟨m,G',h1,h2⟩:=HE.out;exact⟨i+1,m,F1,G',S',_,hil,by go_num,h1,hqq,h2⟩
    case measure=>simp[intOf];omega
   .have hqq:S'.q<=i+1:=ω;have hcs:(D == 2)=false\/((D == 2)=true/\(rc == 0)=false):=by
     by_cases h1:D=2
     .exact Β ⟨by simpa using h1,by simpa using λh2=>aaZ ⟨h1,h2⟩⟩
     .exact Α (by simpa using h1)
    clear aaZ ho1;rcases hcs with h1|⟨h1,h2⟩
    all_goals
     go_wp2
     go_roundw
     case rel=>exact⟨i+1,l,F1,_,S',_,hil,by go_num,HT.out,hqq,ω⟩
     case measure=>simp[intOf];omega
  .obtain rfl:d=i:=ω;have hiI:¬(d:Int)<(d:Int):=ω;obtain⟨a13,c13,rfl,hc13⟩:=bz c.own;have XG:=R6 c.doc;have q:=oz.ok c.a;have yH:=λX (N:ae [] wr X) (h:Int)=>YN (c.doc.ag N) q h;have hsum:=Zc q;have hcl:S.R.cnt<=65536:=by
    have h1:S.R.cnt<=S.R.sl.length:=List.length_filter_le _ _;have:=q.2.1.n;omega
   have hbd:∀j,j<=g->l8 S.A j<=65536:=λj hj=>by
    have:=Sw S.A j S.A.hs.length ω;omega
   have JN:=q.1.h1;have kL:=λX (N:ae [] wr X)=>Ea (bR.ag c.a N:oz K1 X pa Fa I J S);have hu:=c.upd;rw[←XG] at hsum;have hn4:g<=65537:=ω;have HS:=χ (ψ hsum hbd);clear c XG q hsum hbd JN hcl;generalize l.length=ln at *;obtain⟨Z8,r,s,t,u,y,B⟩:=id a;go_wp2
   go_loopw [15,16,91] (λv15 _ v91 wl=>∃j:Nat,j<=g/\v91=.int .i64 (j:Int)/\v15=.int .i64 ((l8 S.A j:Nat):Int)/\ae [] wr wl) (λ_ _ v91 _=>g-(intOf v91).toNat)
   case atStart=>exact⟨0,Nat.zero_le _,rfl,rfl,ae.refl _ _⟩
   case round=>
    obtain⟨j,hj,rfl,rfl,oD⟩:=hrel;rename World=>wl;clear Z8 r s t u y B
    by_cases hjl:j<g
    .have Gr:(j:Int)<(g:Int):=ω;have hwj:IntKind.i64.wrap ((j:Int)+1)=(j:Int)+1:=Μ _ ω;have hb2:=HS.out.2 (j+1) hjl;have e2:l8 S.A (j+1)=l8 S.A j+cZ S.A (j:Int):=rfl;have hws:IntKind.i64.wrap ((l8 S.A j:Int)+(cZ S.A (j:Int):Int))=(l8 S.A j:Int)+(cZ S.A (j:Int):Int):=Μ _ ω;have RD:=yH wl oD (j:Int);have HE2:=χ e2;clear yH e2 hb2 kL;obtain⟨Z8,r,s,t,u,y,B⟩:=a.kept oD σ;generalize l8 S.A j=sj at *;generalize cZ S.A (j:Int)=lj at *
     go_wp2_with ((((with_reducible refine RD.mono ?_));rintro e w5 ⟨rfl,dD⟩))
     go_roundw
     case rel=>exact⟨j+1,hjl,by go_num,by rw[HE2.out];simp,oD.trans dD⟩
     case measure=>simp[intOf];omega
    .obtain rfl:g=j:=ω;have Gr:¬(g:Int)<(g:Int):=ω;have hs2:=HS.out.1;have kL:=kL wl oD;clear yH HS;generalize l8 S.A g=sj at *;generalize S.R.cnt=cn at *;subst hs2
     go_wp2_with ((((with_reducible refine kL.mono ?_));rintro e w9 ⟨rfl,rfl⟩))
     go_ret;exact⟨σ,hu.trans oD⟩
def Md(w:World)(b c:Int)(n m:Int)(i:0<=n/\n<=255)(j:0<=m/\m<=4294967295)(v:Value)(a:Nat)(f:Nat->Ac)(g:VL w v a f):
  Calls prog 6 #[.agg #[b,c,.int .u8 n,.int .u32 m],v] w λe w'=>e=.returned true/\ae [] w w':=by
 by_cases h:60<a\/BP b c m=false
 .obtain⟨o,cap,rfl, -, -, -⟩:=g;exact MX w b c n m i j o a cap h
 .obtain⟨n,rfl⟩:∃k:Nat,n=k:=⟨n.toNat,ω⟩;obtain⟨m,rfl⟩:∃k:Nat,m=k:=⟨m.toNat,ω⟩;simp only[not_or,Bool.not_eq_false] at h;obtain⟨l,d⟩:=h;unfold BP at d;simp at d;exact Lg w b c n m ω ω d.1 v a f g ω
