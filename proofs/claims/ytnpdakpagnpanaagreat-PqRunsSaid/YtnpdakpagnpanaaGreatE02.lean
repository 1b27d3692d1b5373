/-
  Lemmas.
-/
import Derived.Deep.RegionHeldLaw
import Derived.Deep.RegionLaw
import Derived.ArgAppend
import Derived.Test.YtnpdakpagnpanaaGreatE01
set_option linter.all false
set_option maxHeartbeats 8000000
set_option maxRecDepth 10000
namespace Go.Proofs.YtnpdakpagnpanaaGreat
open Tryz
open Go Go.RowKit
def kQ{w:World}{base a n g cap:Nat}{e:TypeId}{xs:List Value}(h:w.ownsRow base e a (.slice (some g) n cap) n xs)(j:Nat)(u:Value):
  (w.setCell ⟨g,j,none⟩ u).ownsRow base e a (.slice (some g) n cap) n (xs.set j u):=by
 rcases h.2 with⟨h1,_⟩|⟨g',cap',cur,h1,hb,hg,hn,hc,hs,ht⟩
 .cases h1
 .cases h1;refine⟨by rw[Ι];exact h.1,Β ⟨g,cap,cur.setIfInBounds j u,rfl,hb,?_,hn,hc,by grind,?_⟩⟩
  .simp[World.setCell,Array.getElem?_modify,hg]
  .rw[Array.toList_setIfInBounds]
   by_cases c:j<n*a
   .rw[List.take_set,ht]
   .have b:=h.1;rw[List.take_set_of_le ω,ht,List.set_eq_of_length_le ω]
def ov(o:Option Int):Int:=o.getD 0
def ob(o:Option Int):Bool:=o.isSome
structure CS where
 v:Nat->Value
 k:Nat->List Int
 u:Nat->Int
def CS.none:CS:=⟨λ_=>.slice Option.none 0 0,λ_=>[],λ_=>-1⟩
def dX(S:CS)(j:Nat):Value:=if j % 2=0 then S.v (j / 2) else .int .i64 (S.u (j / 2))
def oJ(S:CS)(x:Nat):dX S (x*2)=S.v x:=by unfold dX;rw[Δ ω,show x*2 / 2=x by omega]
def wH(S:CS)(x:Nat):dX S (x*2+1)=.int .i64 (S.u x):=by unfold dX;rw[Γ ω,show(x*2+1) / 2=x by omega]
def CS.blk(S:CS)(n:Nat):List Nat:=(List.range n).filterMap (λx=>(S.v x).ownBlock)
def CS.kS(S:CS)(n g:Nat):g∈S.blk n↔∃x,x<n/\(S.v x).ownBlock=some g:=by unfold CS.blk;simp
structure bu(w:World)(bt ba lo n:Nat)(S:CS):Prop where
 head:aQ w bt 231 1 (λ_=>.slice (some ba) n n)
 row:aQ w ba 233 (n*2) (dX S)
 own:∀x,x<n->w.ownsRow lo 3 1 (S.v x) (S.k x).length (aZ (S.k x))
 sep:∀x y,x<n->y<n->x≠y->∀g,(S.v x).ownBlock=some g->(S.v y).ownBlock≠some g
 ne:bt≠ba
 XL:bt<lo
 Tf:ba<lo
 low:lo<=w.heap.size
 le:n<=65536
 len:∀x,x<n->(S.k x).length<=n
def bu.pq{w:World}{bt ba lo n:Nat}{S:CS}(h:bu w bt ba lo n S){g:Nat}(c:g∈S.blk n):lo<=g/\g<w.heap.size:=by
 obtain⟨x,a,b⟩:=(S.kS n g).1 c;exact(h.own x a).lt g b
def bu.upd{w w':World}{F:List Nat}{bt ba lo n:Nat}{S:CS}(h:bu w bt ba lo n S)(a:ae F w w')(d:bt∉F)(e:ba∉F)(f:∀g,g∈S.blk n->g∉F):bu w' bt ba lo n S:=
 ⟨h.head.upd a d,h.row.upd a e,λx b=>au (h.own x b) a (λk c=>f k ((S.kS n k).2 ⟨x,b,c⟩)),h.sep,h.ne,h.XL,h.Tf,Χ h.low a.size,h.le,h.len⟩
def bu.ag{w w':World}{bt ba lo n:Nat}{S:CS}(h:bu w bt ba lo n S)(a:ae [] w w'):bu w' bt ba lo n S:=h.upd a σ σ σ
def nodeInfo:(prog.info? 233).map (λi=>(i.zero,i.size,i.bytes))=some (some (.agg #[.slice none 0 0,(0:Int)]),2,32):=by kernel_rfl
def Gw(n:Nat)(w:World)(h:n<=65536):
  Calls prog 86 #[(n:Int)] w λe w'=>∃bt ba,e=.returned (.tuple #[(bt:Nat),(0:Int)])/\bu w' bt ba w'.heap.size n CS.none/\ae [] w w'/\w.heap.size<=bt/\w.heap.size<=ba:=by
 go_enter func86,ntmps86
 go_wp2_with (at_make;refine wpList_make_row rfl _ 229 rfl 233 (.agg #[.slice none 0 0,(0:Int)]) 2 32 underlying229 nodeInfo n rfl ω μ ?_;intro r b c)
 have s:=b.lt;have o:∀j,j<n*2->(madeCells (Value.agg #[.slice none 0 0,(0:Int)]).cells (n*2)).toList.getD j undef=if j % 2=0 then .slice none 0 0 else .int .i64 0:=λj a=>by
  rw[show(Value.agg #[.slice none 0 0,(0:Int)]).cells=#[Value.slice none 0 0,Value.int .i64 0] from rfl];unfold madeCells;simp[φ,a]
  grind
 go_loopw [21] (λi wr=>∃(k:Nat) (f:Nat->Value),k<=n/\i=.int .i64 k/\aQ wr r.heap.size 231 1 (λ_=>.slice (some w.heap.size) n n)/\aQ wr w.heap.size 233 (n*2) f/\(∀j,j<n*2->f j=if j % 2=0 then .slice none 0 0 else .int .i64 (if j<k*2 then -1 else 0))/\ae [] w wr) (λi _=>n-(intOf i).toNat)
 case atStart=>exact⟨0,_,ω,rfl,eO _ _ _ |>.ext (λj a=>by simp at a;subst a;rfl),b.alloc _,λj a=>by rw[o j a,Γ (show ¬j<0*2 by omega)],c.alloc _⟩
 case round=>
  obtain⟨k,f,A,rfl,l,d,m,q⟩:=hrel;have B:=χ o;clear o
  by_cases z:k<n
  .have C:=l.cell 0 ω;have D:=d.cell (k*2+1) ω;have E:=d.free (k*2+1);have t:=χ m;clear m;go_wp2
   go_roundw
   case rel=>
    refine⟨k+1,_,ω,by go_num,l.far _ _ ζ,d.set _ _,λj a=>?_,q.setCell (Β σ) _⟩
    by_cases p:j=k*2+1
    .grind
    .rw[Γ p,t.out j a]
     grind
   case measure=>simp[intOf];omega
  .obtain rfl:k=n:=ω;go_wp2;go_ret2;exact⟨_,_,rfl,⟨l,d.ext (λj a=>by rw[m j a,Δ (show j<k*2 by omega)];rfl),λx u=>World.ownsRow_nil _ _ _ _,λx y _ _ _ g v=>by simp[CS.none,Value.ownBlock] at v,by omega,l.lt,d.lt,Θ _,h,λx u=>Nat.zero_le _⟩,q,c.size,Θ _⟩
def oN(bt ba lo n:Nat)(S:CS)(x:Int)(w:World)(h:bu w bt ba lo n S)(b:Bool)(d:b=decide (0<=x/\x<n)):
  Calls prog 186 #[bt,x] w λe w'=>e=.returned b/\w'=w:=by
 have f:=h.head.cell 0 ω;clear h;subst d
 by_cases a:0<=x
 .by_cases c:x<n
  .go_enter func186,ntmps186
   go_wp2;go_ret;exact⟨bF (by simp[a,c]),rfl⟩
  .go_enter func186,ntmps186
   go_wp2;go_ret;exact⟨bF (by simp[a,c]),rfl⟩
 .go_enter func186,ntmps186
  go_wp2;go_ret;exact⟨bF ζ,rfl⟩
def qJ(n:Nat)(S:CS)(x:Int):Bool:=decide (0<=x/\x<n) && S.u x.toNat == -1
def qE(n:Nat)(S:CS)(x:Int):Int:=if 0<=x/\x<n then(S.k x.toNat).length else 0
def La(n:Nat)(S:CS)(x:Int):Option Int:=if 0<=x/\x<n then(if S.u x.toNat=-1 then none else some (S.u x.toNat)) else none
def xX(bt ba lo n:Nat)(S:CS)(x:Int)(w:World)(h:bu w bt ba lo n S):
  Calls prog 189 #[bt,x] w λe w'=>e=.returned (.bool (qJ n S x))/\w'=w:=by
 by_cases a:0<=x/\x<n
 .obtain⟨k,rfl⟩:∃k:Nat,x=k:=⟨x.toNat,ω⟩;have c:k<n:=ω;have d:=h.head.cell 0 ω;have f:=h.row.cellAt (k*2+1) ω (wH S k);have b:=oN bt ba lo n S k w h true (by simp[c]);have e:qJ n S k=(S.u k == -1):=by unfold qJ;rw[Ν a];simp
  rw[e];clear h e a;generalize S.u k=u at *
  go_enter func189,ntmps189
  go_wp2_with (go_at_call 186;refine b.mono ?_;rintro e w' ⟨rfl,rfl⟩)
  go_ret;exact⟨rfl,rfl⟩
 .have b:=oN bt ba lo n S x w h false (by simpa using a);have e:qJ n S x=false:=by unfold qJ;rw[Ξ a];rfl
  rw[e];clear h e a
  go_enter func189,ntmps189
  go_wp2_with (go_at_call 186;refine b.mono ?_;rintro e w' ⟨rfl,rfl⟩)
  go_ret;exact⟨rfl,rfl⟩
def tO(bt ba lo n:Nat)(S:CS)(x:Int)(w:World)(h:bu w bt ba lo n S):
  Calls prog 194 #[bt,x] w λe w'=>e=.returned (qE n S x:Int)/\w'=w:=by
 by_cases b:0<=x/\x<n
 .obtain⟨k,rfl⟩:∃k:Nat,x=k:=⟨x.toNat,ω⟩;have f:k<n:=ω;have g:=h.head.cell 0 ω;obtain⟨a,cap,d,_⟩:=bz (h.own k f);have i:=h.row.cellAt (k*2) ω ((oJ S k).trans d);have c:=oN bt ba lo n S k w h true (by simp[f]);have e:qE n S k=((S.k k).length:Int):=by unfold qE;rw[Δ b];simp
  rw[e];clear h e b d;generalize (S.k k).length=u at *
  go_enter func194,ntmps194
  go_wp2_with (go_at_call 186;refine c.mono ?_;rintro e w' ⟨rfl,rfl⟩)
  go_ret;exact⟨rfl,rfl⟩
 .have c:=oN bt ba lo n S x w h false (by simpa using b);have e:qE n S x=0:=by unfold qE;rw[Γ b]
  rw[e];clear h e b
  go_enter func194,ntmps194
  go_wp2_with (go_at_call 186;refine c.mono ?_;rintro e w' ⟨rfl,rfl⟩)
  go_ret;exact⟨rfl,rfl⟩
def yL(bt ba lo n:Nat)(S:CS)(x:Int)(w:World)(h:bu w bt ba lo n S):
  Calls prog 179 #[bt,x] w λe w'=>e=.returned (.tuple #[(ov (La n S x):Int),.bool (ob (La n S x))])/\w'=w:=by
 by_cases a:0<=x/\x<n
 .obtain⟨k,rfl⟩:∃k:Nat,x=k:=⟨x.toNat,ω⟩;have d:k<n:=ω;have f:=h.head.cell 0 ω;have g:=h.row.cellAt (k*2+1) ω (wH S k);have b:=oN bt ba lo n S k w h true (by simp[d]);have e:La n S k=if S.u k=-1 then none else some (S.u k):=by unfold La;rw[Δ a];simp
  rw[e];clear h e a;generalize S.u k=u at *
  by_cases c:u=-1
  .subst c
   go_enter func179,ntmps179
   go_wp2_with (go_at_call 186;refine b.mono ?_;rintro e w' ⟨rfl,rfl⟩)
   go_ret2;exact⟨rfl,rfl⟩
  .have i:(u == -1)=false:=by simpa using c
   rw[Γ c];clear c
   go_enter func179,ntmps179
   go_wp2_with (go_at_call 186;refine b.mono ?_;rintro e w' ⟨rfl,rfl⟩)
   go_ret2;exact⟨rfl,rfl⟩
 .have b:=oN bt ba lo n S x w h false (by simpa using a);have e:La n S x=none:=by unfold La;rw[Γ a]
  rw[e];clear h e a
  go_enter func179,ntmps179
  go_wp2_with (go_at_call 186;refine b.mono ?_;rintro e w' ⟨rfl,rfl⟩)
  go_ret2;exact⟨rfl,rfl⟩
def Sm(w:World)(lo:Nat)(v:Value)(z:List Int)(h:jD w lo v z.length (aZ z))(A:z.length<=65536):
  Calls prog 152 #[v] w λe w'=>∃v',e=.returned v'/\jD w' w.heap.size v' z.length (aZ z)/\ae [] w w':=by
 have k:=h;obtain⟨a,cap,rfl,m,n,hp⟩:=h.open;have o:=iq z;generalize c:aZ z=j at *;have p:∀u∈j,u.oneCell'=true:=by rw[←c];exact Fw z
 generalize z.length=b at *;clear c;cases a with
 |none=>
  have q:b=0:=by
   grind
  subst q;have g:j=[]:=ϙ o;subst g;have hs:=λ(W:World)=>Lib.run_eql_slice_nil (P:=prog) W 77 3 none 0 cap 0 0 underlying77;clear hp h k
  go_enter func152,ntmps152
  go_wp2;go_ret;exact⟨_,rfl,Α ⟨rfl,rfl,rfl⟩,ae.refl _ _⟩
 |some a=>
  have hs:=λ(W:World)=>Lib.run_eql_slice_nil (P:=prog) W 77 3 (some a) b cap 0 0 underlying77;have r:=h.upd ((ae.refl [] w).alloc (.cells #[] 3)) σ;have s:=qz w [] 3 w.heap.size 1 0 rfl (Θ _) μ;clear hp h k
  go_enter func152,ntmps152
  go_wp2_with (at_builtin;refine yM rfl _ _ 77 rfl w.heap.size 3 (.int .i64 0) 1 8 underlying77 gN rfl δ _ _ _ rfl s lo b j _ rfl r ω p μ ω σ ?_;intro y l d f)
  go_ret;have i:ae [w.heap.size] (w.alloc (.cells #[] 3)) l:=f;refine⟨_,rfl,?_,((ae.refl _ _).alloc _).joined i (λx t=>Β (by simp at t;omega))⟩;have:=jD.vP d;simpa using this
def rowOk(n:Nat)(S:CS)(l:List Int)(i:Nat):Bool:=qJ n S (l.getD i 0) && (i == 0 || decide (qE n S (l.getD (i-1) 0)<qE n S (l.getD i 0)))
def yB(n:Nat)(S:CS)(l:List Int)(j:Nat):Bool:=(List.range j).all (rowOk n S l)
def LV(n:Nat)(S:CS)(l:List Int)(j:Nat):yB n S l (j+1)=(yB n S l j && rowOk n S l j):=by
 unfold yB;rw[List.range_succ,List.all_append];simp
def U7(n:Nat)(S:CS)(l:List Int)(j:Nat)(h:yB n S l j=true)(a:rowOk n S l j=false)(m:Nat)(b:j<m):yB n S l m=false:=by
 unfold yB
 grind
def Qk(n:Nat)(S:CS)(l:List Int):Bool:=yB n S l l.length
def CS.Da(S:CS)(x:Nat)(v:Value)(l:List Int):CS:=⟨λy=>if y=x then v else S.v y,λy=>if y=x then l else S.k y,S.u⟩
def CS.uW(S:CS)(x:Nat)(p:Int):CS:=⟨S.v,S.k,λy=>if y=x then p else S.u y⟩
def CS.U9(S:CS)(x:Nat)(v:Value)(l:List Int)(n g:Nat)(h:g∈(S.Da x v l).blk n):g∈S.blk n\/v.ownBlock=some g:=by
 obtain⟨y,b,a⟩:=(CS.kS _ n g).1 h;unfold CS.Da at a;simp only at a
 split at a
 .exact Β a
 .exact Α ((CS.kS _ n g).2 ⟨y,b,a⟩)
def bu.dE{w:World}{bt ba lo n:Nat}{S:CS}(h:bu w bt ba lo n S)(x:Nat)(f:x<n)(p:Int):bu (w.setCell ⟨ba,x*2+1,none⟩ (.int .i64 p)) bt ba lo n (S.uW x p):=by
 have a:ae [ba] w (w.setCell ⟨ba,x*2+1,none⟩ (.int .i64 p)):=(ae.refl _ _).setCell (Α σ) _;refine⟨h.head.upd a (by simp;exact h.ne),(h.row.set _ _).ext (λj e=>?_),λy b=>au (h.own y b) a (λk c d=>?_),h.sep,h.ne,h.XL,h.Tf,Χ h.low a.size,h.le,h.len⟩
 .unfold dX CS.uW
  grind
 .have:=((h.own y b).lt k c).1;have:=h.Tf;simp at d;omega
def bu.XZ{w r:World}{bt ba lo n:Nat}{S:CS}(h:bu w bt ba lo n S)(x:Nat)(s:x<n)(v:Value)(l:List Int){F:List Nat}(t:ae F w r)(A:∀g,g∈F->(S.v x).ownBlock=some g)
  (B:r.ownsRow lo 3 1 v l.length (aZ l)) (C:∀g,v.ownBlock=some g->(S.v x).ownBlock=some g\/w.heap.size<=g) (J:l.length<=n):bu (r.setCell ⟨ba,x*2,none⟩ v) bt ba lo n (S.Da x v l):=by
 have D:∀g,g∈F->lo<=g/\g<w.heap.size:=λg b=>(h.own x s).lt g (A g b);have E:=h.XL;have G:=h.Tf;have c:ae [ba] r (r.setCell ⟨ba,x*2,none⟩ v):=(ae.refl _ _).setCell (Α σ) _;have H:=h.row.upd t (λi=>by grind);refine⟨(h.head.upd t (λi=>by grind)).upd c (by simp;exact h.ne),(H.set _ _).ext (λj I=>?_),λy d=>?_,?_,h.ne,h.XL,h.Tf,Χ (Χ h.low t.size) c.size,h.le,?_⟩
 .unfold dX CS.Da
  grind
 .unfold CS.Da;simp only
  by_cases a:y=x
  .rw[Δ a,Δ a];exact au B c (λk p i=>by have:=(B.lt k p).1;simp at i;omega)
  .rw[Γ a,Γ a];have f:=h.own y d;have o:=au f t (λk p i=>h.sep y x d s a k p (A k i));exact au o c (λk p i=>by have:=(f.lt k p).1;simp at i;omega)
 .intro y z d u m g b;unfold CS.Da at b ⊢;simp only at b ⊢
  by_cases a:y=x
  .rw[Δ a] at b;rw[Γ (λe=>m (by rw[a,e]))];rcases C g b with f|f
   .exact h.sep x z s u ω g f
   .intro o;have:=((h.own z u).lt g o).2;omega
  .rw[Γ a] at b
   by_cases q:z=x
   .rw[Δ q];intro o;rcases C g o with f|f
    .exact h.sep y x d s a g b f
    .have:=((h.own y d).lt g b).2;omega
   .rw[Γ q];exact h.sep y z d u m g b
 .intro y d;unfold CS.Da;simp only
  by_cases a:y=x
  .grind
  .rw[Γ a];exact h.len y d
structure gH(w:World)(bt ba n:Nat)(f:Nat->Value):Prop where
 head:aQ w bt 231 1 (λ_=>.slice (some ba) n n)
 row:aQ w ba 233 (n*2) f
 ne:bt≠ba
 le:n<=65536
def bu.nodes{w:World}{bt ba lo n:Nat}{S:CS}(h:bu w bt ba lo n S):gH w bt ba n (dX S):=⟨h.head,h.row,h.ne,h.le⟩
def gH.upd{w w':World}{F:List Nat}{bt ba n:Nat}{f:Nat->Value}(h:gH w bt ba n f)(a:ae F w w')(b:bt∉F)(c:ba∉F):gH w' bt ba n f:=⟨h.head.upd a b,h.row.upd a c,h.ne,h.le⟩
def gH.set{w:World}{bt ba n:Nat}{f:Nat->Value}(h:gH w bt ba n f)(j:Nat)(v:Value):gH (w.setCell ⟨ba,j,none⟩ v) bt ba n (λi=>if i=j then v else f i):=
 ⟨h.head.far _ _ h.ne,h.row.set j v,h.ne,h.le⟩
def gH.ext{w:World}{bt ba n:Nat}{f g:Nat->Value}(h:gH w bt ba n f)(a:∀j,j<n*2->f j=g j):gH w bt ba n g:=⟨h.head,h.row.ext a,h.ne,h.le⟩
def ui(f:Nat->Value)(p:Int)(ks:List Int)(i:Nat):Value:=if i % 2=1/\((i / 2:Nat):Int)∈ks then .int .i64 p else f i
def jC(f:Nat->Value)(x:Nat)(v:Value)(i:Nat):Value:=if i=x then v else f i
def EY(f:Nat->Value)(p:Int)(a:List Int)(q y:Nat)(b:a[q]?=some (y:Int))(i:Nat):(if i=y*2+1 then .int .i64 p else ui f p (a.take q) i)=ui f p (a.take (q+1)) i:=by
 unfold ui;rw[ώ,b]
 grind
def Fe(bt ba n lo x:Nat)(f:Nat->Value)(v:Value)(b:List Int)(w:World)(h:gH w bt ba n f)(E:jD w lo v b.length (aZ b))(Z:x<n)(P:ba<lo)(o:∀k,k∈b->0<=k/\k<n):
  Calls prog 187 #[bt,(x:Int),v] w λe w'=>e=.returned (.tuple #[])/\gH w' bt ba n (ui (jC f (x*2) v) x b)/\ae [ba] w w':=by
 obtain⟨a,cap,rfl,F,G,hp⟩:=E.open;have R:=h.head.cell 0 ω;have S:=h.row.cell (x*2) ω;have T:=h.row.free (x*2);have C:gH (w.setCell ⟨ba,x*2,none⟩ (.slice a b.length cap)) bt ba n (ui (jC f (x*2) (.slice a b.length cap)) x (b.take 0)):=by
  refine(h.set (x*2) (.slice a b.length cap)).ext (λj O=>?_)
  show jC f (x*2) (.slice a b.length cap) j=_
  unfold ui;rw[Γ σ]
 have u:ae [ba] w (w.setCell ⟨ba,x*2,none⟩ (.slice a b.length cap)):=(ae.refl _ _).setCell (Α σ) _;have K:=χ hp;have L:=χ o;generalize jC f (x * 2) (.slice a b.length cap)=g at *;clear hp E o h;generalize l:b.length=c at *;have d:=χ l;clear l
 go_enter func187,ntmps187
 go_wp2
 go_loopw [18] (λi wr=>∃q:Nat,q<=c/\i=.int .i64 (q:Int)/\gH wr bt ba n (ui g x (b.take q))/\ae [ba] w wr) (λi _=>c-(intOf i).toNat)
 case atStart=>exact⟨0,ω,rfl,C,u⟩
 case round=>
  obtain⟨q,Q,rfl,m,r⟩:=hrel
  by_cases A:q<c
  .obtain⟨H,rfl,I,s,B⟩:=K.out ω;obtain⟨y,p⟩:∃y,b[q]?=some y:=⟨b[q]'(by rw[d.out];exact A),σ⟩;obtain⟨t,J⟩:=L.out y (Η p);obtain⟨Y,rfl⟩:=Int.eq_ofNat_of_zero_le t;have D:=B q (.int .i64 (Y:Int)) (by unfold aZ;rw[ϑ,p];rfl);have M:wr.cell? ⟨H,q,none⟩=some ((Y:Int):V):=by rw[r.cell s ζ];exact D
   have U:=m.head.cell 0 ω;have W:=m.row.cell (Y*2+1) ω;have X:=m.row.free (Y*2+1);have hs:=EY g x b q Y p;have N:=χ hs;have z:=χ m;clear hs p B D m C;go_wp2
   go_roundw
   case rel=>exact⟨q+1,ω,by go_num,(z.out.set _ _).ext (λj O=>N.out j),r.setCell (Α σ) _⟩
   case measure=>simp[intOf];omega
  .obtain rfl:q=c:=ω;rw[List.take_of_length_le (by rw[d.out];omega)] at m;go_wp2;go_end0;exact⟨rfl,m,r⟩
def iE(S:CS)(x:Nat):CS:=⟨λy=>if y=x then .slice none 0 0 else S.v y,λy=>if y=x then[] else S.k y,λy=>if(y:Int)∈S.k x then -1 else S.u y⟩
def tF(S:CS)(x n g:Nat)(h:g∈(iE S x).blk n):g∈S.blk n:=by
 obtain⟨y,b,a⟩:=(CS.kS _ n g).1 h;unfold iE at a;simp only at a
 split at a
 .cases a
 .exact(CS.kS _ n g).2 ⟨y,b,a⟩
def JH(S:CS)(x:Nat)(j:Nat):ui (jC (dX S) (x*2) (.slice none 0 0)) (-1) (S.k x) j=dX (iE S x) j:=by
 unfold ui jC dX iE
 grind
def bu.split{w f:World}{bt ba lo n:Nat}{S:CS}(h:bu w bt ba lo n S)(x:Nat)(q:x<n)(i:gH f bt ba n (dX (iE S x)))(j:ae [ba] w f):bu f bt ba lo n (iE S x):=by
 have p:=h.Tf;refine⟨i.head,i.row,λy b=>?_,λy z b l e g c=>?_,h.ne,h.XL,h.Tf,Χ h.low j.size,h.le,λy b=>?_⟩
 .unfold iE;simp only
  by_cases a:y=x
  .rw[Δ a,Δ a];exact World.ownsRow_nil _ _ _ _
  .rw[Γ a,Γ a];exact au (h.own y b) j (λk m o=>by have:=((h.own y b).lt k m).1;simp at o;omega)
 .unfold iE at c ⊢;simp only at c ⊢
  by_cases a:y=x
  .rw[Δ a] at c;cases c
  .rw[Γ a] at c
   by_cases d:z=x
   .rw[Δ d];intro h;cases h
   .rw[Γ d];exact h.sep y z b l e g c
 .unfold iE;simp only
  split
  .exact Nat.zero_le _
  .exact h.len y b
def Q3(bt ba lo n:Nat)(S:CS)(x:Nat)(w:World)(h:bu w bt ba lo n S)(F:x<n)(M:qJ n S x=true)(o:∀k,k∈S.k x->0<=k/\k<n):
  Calls prog 184 #[bt,(x:Int)] w λe w'=>∃v,e=.returned v/\jD w' w.heap.size v (S.k x).length (aZ (S.k x))/\bu w' bt ba lo n (iE S x)/\ae [ba] w w':=by
 have U:=h.le;have X:=h.Tf;have Z:=h.len x F;have I:=xX bt ba lo n S x w h;rw[M] at I;have c0:=h.head.cell 0 ω;have r:=jD.vP (h.own x F);obtain⟨a,cap,t,O,P,hp⟩:=r.open;have d0:=h.row.cellAt (x*2) ω ((oJ S x).trans t);have e0:=h.row.free (x*2);have A:ae [ba] w (w.setCell ⟨ba,x*2,none⟩ (.slice none 0 0)):=(ae.refl _ _).setCell (Α σ) _;have B:gH (w.setCell ⟨ba,x*2,none⟩ (.slice none 0 0)) bt ba n (ui (jC (dX S) (x*2) (.slice none 0 0)) (-1) ((S.k x).take 0)):=by
  refine(h.nodes.set (x*2) (.slice none 0 0)).ext (λj L=>?_)
  show jC (dX S) (x*2) (.slice none 0 0) j=_
  unfold ui;rw[Γ σ]
 have J:=λW (hW:ae [ba] w W)=>Sm W lo (.slice a (S.k x).length cap) (S.k x) (by rw[t] at r;exact r.upd hW (λk hk=>by simp at hk;omega)) ω;have HE:=χ (JH S x);have H:=χ h;have HP:=χ hp;have HK:=χ o;generalize jC (dX S) (x * 2) (.slice none 0 0)=g at *;clear h M o hp r t;generalize S.k x=m at *;generalize f:m.length=b at *;have d:=χ f;clear f
 go_enter func184,ntmps184
 go_wp2_with (((with_reducible refine aP I ?_)))
 go_loopw [29] (λi wr=>∃q:Nat,q<=b/\i=.int .i64 (q:Int)/\gH wr bt ba n (ui g (-1) (m.take q))/\ae [ba] w wr) (λi _=>b-(intOf i).toNat)
 case atStart=>exact⟨0,ω,rfl,B,A⟩
 case round=>
  obtain⟨q,hq,rfl,c,l⟩:=hrel
  by_cases E:q<b
  .obtain⟨Q,rfl,R,u,G⟩:=HP.out ω;obtain⟨y,p⟩:∃y,m[q]?=some y:=⟨m[q]'(by rw[d.out];exact E),σ⟩;obtain⟨z,T⟩:=HK.out y (Η p);obtain⟨Y,rfl⟩:=Int.eq_ofNat_of_zero_le z;have K:=G q (.int .i64 (Y:Int)) (by unfold aZ;rw[ϑ,p];rfl);have hc2:wr.cell? ⟨Q,q,none⟩=some ((Y:Int):V):=by rw[l.cell u ζ];exact K
   have c1:=c.head.cell 0 ω;have d1:=c.row.cell (Y*2+1) ω;have e1:=c.row.free (Y*2+1);have hs:=EY g (-1) m q Y p;have HS:=χ hs;have C:=χ c;clear hs p G K c B;go_wp2
   go_roundw
   case rel=>exact⟨q+1,ω,by go_num,(C.out.set _ _).ext (λj L=>HS.out j),l.setCell (Α σ) _⟩
   case measure=>simp[intOf];omega
  .obtain rfl:q=b:=ω;rw[List.take_of_length_le (by rw[d.out];omega)] at c;have kC:=J wr l;have Xy:=c.ext (λj L=>HE.out j);have D:=l.size;clear J c B
   go_wp2_with ((with_reducible refine kC.mono ?_);rintro e w2 ⟨v2,rfl,N,s⟩)
   go_ret;exact⟨_,rfl,N.mono D,H.out.split x F (Xy.upd s σ σ) (l.then s),l.then s⟩
def idxOf(l:List Int)(x:Int):Int:=match l.findIdx? (λy=>y == x) with|some i=>(i:Int)|none=>-1
def Ka(l:List Int)(x:Int)(k:Nat)(c:x∉l.take k)(d:l[k]?=some x):idxOf l x=k:=by
 have:l.findIdx? (λy=>y == x)=some k:=by
  rw[List.findIdx?_eq_some_iff_getElem];obtain⟨a,b⟩:=List.getElem?_eq_some_iff.1 d;refine⟨a,by simp[b],λj f=>?_⟩;simp only[beq_iff_eq];intro e;exact c (by rw[←e];exact List.mem_take_iff_getElem.2 ⟨j,ω,rfl⟩)
 unfold idxOf;rw[this]
def Dc(l:List Int)(x:Int)(a:x∉l):idxOf l x=-1:=by
 have:l.findIdx? (λy=>y == x)=none:=by
  grind
 unfold idxOf;rw[this]
def Ff(w:World)(lo:Nat)(v:Value)(l:List Int)(x:Int)(h:jD w lo v l.length (aZ l)):
  Calls prog 180 #[v,x] w λe w'=>e=.returned (idxOf l x:Int)/\w'=w:=by
 obtain⟨a,cap,rfl,s,t,hp⟩:=h.open;have A:=χ hp;clear hp h;generalize f:l.length=c at *;have d:=χ f;clear f
 go_enter func180,ntmps180
 go_wp2
 go_loop [8] (λi=>∃q:Nat,q<=c/\i=.int .i64 (q:Int)/\x∉l.take q) (λi=>c-(intOf i).toNat)
 case atStart=>exact⟨0,ω,rfl,σ⟩
 case round=>
  obtain⟨q,B,rfl,g⟩:=hrel
  by_cases p:q<c
  .obtain⟨C,rfl,u,z,m⟩:=A.out ω;obtain⟨y,j⟩:∃y,l[q]?=some y:=⟨l[q]'(by rw[d.out];exact p),σ⟩;have D:=m q (.int .i64 y) (by unfold aZ;rw[ϑ,j];rfl)
   by_cases b:x=y
   .subst b;have r:=Ka l x q g j;have n:=χ r;clear m g j r;go_wp2;go_ret;exact⟨jW n.out.symm,rfl⟩
   .have E:(x == y)=false:=by simpa using b
    have k:x∉l.take (q+1):=by rw[ώ,j];simp;exact⟨g,b⟩
    have o:=χ k;clear m g j k b;go_wp2
    go_round
    case rel=>exact⟨q+1,ω,by go_num,o.out⟩
    case measure=>simp[intOf];omega
  .obtain rfl:q=c:=ω;rw[List.take_of_length_le (by rw[d.out];omega)] at g;have n:=χ (Dc l x g);clear g;go_wp2;go_ret;exact⟨jW n.out.symm,rfl⟩
def setAt(l:List Int)(x y:Int):List Int:=l.set (idxOf l x).toNat y
def lC(l:List Int)(x y:Int):(setAt l x y).length=l.length:=by unfold setAt;simp
def yT(l:List Int)(x:Int)(h:x∈l):∃i:Nat,i<l.length/\idxOf l x=i/\l[i]?=some x:=by
 cases b:l.findIdx? (λy=>y == x) with
 |none=>
  grind
 |some i=>
  have a:=b;rw[List.findIdx?_eq_some_iff_getElem] at a;obtain⟨c,d,_⟩:=a;refine⟨i,c,by unfold idxOf;rw[b],?_⟩
  grind
def iI(S:CS)(x p:Nat)(above:Int):CS:=
  ⟨λy=>if y=x then S.v p else if y=p then S.v x else S.v y,
   λy=>if y=x then setAt (S.k p) x p else if y=p then S.k x else if(y:Int)=above then setAt (S.k y) p x else S.k y,
   λy=>if y=x then above else if (y:Int)∈S.k x then p else if (y:Int)∈setAt (S.k p) x p then x else S.u y⟩
def O9(S:CS)(x p:Nat)(above:Int):Nat->Value:=
 jC (ui (jC (ui (jC (dX S) (x*2) (S.v p)) x (setAt (S.k p) x p)) (p*2) (S.v x)) p (S.k x)) (x*2+1) (.int .i64 above)
def sD(f:Nat->Value)(p:Int)(a:List Int)(j:Nat)(h:j % 2=0):ui f p a j=f j:=by unfold ui;rw[Γ ω]
def oP(f:Nat->Value)(x:Nat)(v:Value)(j:Nat)(h:j≠x):jC f x v j=f j:=by unfold jC;rw[Γ h]
def Oq(f:Nat->Value)(x:Nat)(v:Value):jC f x v x=v:=by unfold jC;rw[Δ rfl]
def Ev(S:CS)(x p:Nat)(a:Int)(d:x≠p)(j:Nat):O9 S x p a j=dX (iI S x p a) j:=by
 unfold O9
 by_cases h:j % 2=0
 .rw[oP _ _ _ _ (show j≠x*2+1 by omega),sD _ _ _ _ h];unfold dX iI;rw[Δ h];simp only
  by_cases b:j / 2=x
  .rw[oP _ _ _ _ (show j≠p*2 by omega),sD _ _ _ _ h,show j=x*2 by omega,Oq,Δ ω]
  .by_cases c:j / 2=p
   .rw[show j=p*2 by omega,Oq,Γ ω,Δ ω]
   .rw[oP _ _ _ _ (show j≠p*2 by omega),sD _ _ _ _ h,oP _ _ _ _ (show j≠x*2 by omega),Δ h,Γ b,Γ c]
 .have e:j % 2=1:=ω;unfold dX iI jC ui
  grind
def IX{w:World}{base n cap g:Nat}{e:TypeId}{xs:List Value}(h:w.ownsRow base e 1 (.slice (some g) n cap) n xs)(j:Nat)(u:Value):
  (w.setCell ⟨g,j,none⟩ u).ownsRow base e 1 (.slice (some g) n cap) n (xs.set j u):=(h.stored j u).1
def Fu(l:List Int)(j:Nat)(y:Int):aZ (l.set j y)=(aZ l).set j (.int .i64 y):=by unfold aZ;rw[List.map_set]
structure BI(n:Nat)(S:CS)(x p:Nat)(above:Int):Prop where
 hx:x<n
 hp:p<n
 ne:x≠p
 up:S.u x=p
 ab:S.u p=above
 mem:(x:Int)∈S.k p
 kx:∀k,k∈S.k x->0<=k/\k<n
 kp:∀k,k∈S.k p->0<=k/\k<n
 top:above=-1\/∃q:Nat,above=q/\q<n/\q≠x/\q≠p/\(p:Int)∈S.k q
def bu.lift{w d:World}{bt ba lo n:Nat}{S:CS}(h:bu w bt ba lo n S){x p:Nat}{c:Int}(i:BI n S x p c)(k:gH d bt ba n (dX (iI S x p c)))(hs:w.heap.size<=d.heap.size)
  (t:∀y,y<n->d.ownsRow lo 3 1 ((iI S x p c).v y) ((iI S x p c).k y).length (aZ ((iI S x p c).k y))):bu d bt ba lo n (iI S x p c):=by
 have l:=i.hx;have hp:=i.hp;have m:=i.ne;refine⟨k.head,k.row,t,λy z e u q g j=>?_,h.ne,h.XL,h.Tf,Χ h.low hs,h.le,λy e=>?_⟩
 .unfold iI at j ⊢;simp only at j ⊢;have o:∀a b,a<n->b<n->a≠b->(S.v a).ownBlock=some g->(S.v b).ownBlock≠some g:=λa b r s f=>h.sep a b r s f g
  by_cases v:y=x
  .grind
  .grind
 .unfold iI;simp only
  split
  .rw[lC];exact h.len p hp
  .split
   .exact h.len x l
   .split
    .rw[lC];exact h.len y e
    .exact h.len y e
set_option maxRecDepth 100000 in
def J7(bt ba lo n:Nat)(S:CS)(x p:Nat)(d:Int)(w:World)(h:bu w bt ba lo n S)(B:BI n S x p d):
  Calls prog 181 #[bt,(x:Int)] w λe w'=>e=.returned true/\bu w' bt ba lo n (iI S x p d)/\ae (ba::S.blk n) w w':=by
 have P:=B.hx;have hp:=B.hp;have hl1:=h.XL;have hl2:=h.Tf;have k1:=yL bt ba lo n S x w h;have hup:La n S x=some (p:Int):=by unfold La;rw[Δ ω,show((x:Int)).toNat=x by omega,B.up,Γ ω]
 rw[hup,show ov (some (p:Int))=(p:Int) from rfl,show ob (some (p:Int))=true from rfl] at k1;obtain⟨ax,cx,D,_⟩:=bz (h.own x P);obtain⟨i,hil,z,hi⟩:=yT _ _ B.mem;obtain⟨o,cp,f,hg1,hg2,hgc,hgm,hgx,hgf⟩:=fU (h.own p hp) ω;have c0:=h.head.cell 0 ω;have d0:=h.row.cellAt (x*2) ω ((oJ S x).trans D);have d1:=h.row.cellAt (p*2) ω ((oJ S p).trans f);have d2:=h.row.cellAt (p*2+1) ω ((wH S p).trans (by rw[B.ab]));have hab:d≠-1->(d != -1)=true:=λh=>by simpa using h
 clear hup
 go_enter func181,ntmps181
 go_wp2_with (((with_reducible refine aP k1 ?_)))
 go_quiet (fail)
 have F:bu (w.drewN nq) bt ba lo n S:=h.ag ((ae.refl _ _).drewN _);have hu0:ae (ba::S.blk n) w (w.drewN nq):=(ae.refl _ _).drewN _;generalize w.drewN nq=W at *;clear h c0 d0 d1 d2 hgx hgf k1 hg1 hg2;have u:=F.own p hp;have hox:=F.own x P;rw[f] at u;have XM:=u.lt o rfl;have kI:=Ff W lo _ (S.k p) x (jD.vP u);rw[z] at kI;have ci:W.cell? ⟨o,i,none⟩=some ((x:Int):V):=by rw[u.cellAt i ω];unfold aZ;rw[ϑ,hi];rfl
 have fi:=u.frozenAt i;have A:(S.k p).set i p=setAt (S.k p) x p:=by unfold setAt;rw[z];rfl
 have Q:=IX u i (.int .i64 (p:Int));rw[←Fu,A] at Q;have m:ae [o] W (W.setCell ⟨o,i,none⟩ (.int .i64 (p:Int))):=(ae.refl _ _).setCell (Α σ) _;have hN1:=F.nodes.upd m ζ ζ;have R:=lC (S.k p) x p
 have kA1:=Fe bt ba n lo x (dX S) _ (setAt (S.k p) x p) _ hN1 (by have:=jD.vP Q;rw [R];exact this) P hl2 (λk r=>by
  rw[←A] at r;rcases List.mem_or_eq_of_mem_set r with h|h
  .exact B.kp k h
  .omega)
 have hxg:(S.v x).ownBlock≠some o:=F.sep p x hp P (Ne.symm B.ne) o (by rw[f];rfl);have hox1:=au hox m (λk r s=>by simp at s;subst s;exact hxg r);have T:=λw2 (Xy:gH w2 bt ba n (ui (jC (dX S) (x*2) (.slice (some (o:Nat)) (S.k p).length cp)) x (setAt (S.k p) x p))) (l:ae [ba] (W.setCell ⟨o,i,none⟩ (.int .i64 (p:Int))) w2)=>
  Fe bt ba n lo p _ (S.v x) (S.k x) w2 Xy (jD.vP (au hox1 l (λk r s=>by have:=(hox.lt k r).1;simp at s;omega))) hp hl2 B.kx
 rw[D] at T;have UX:∀y,y<n->∀g,(S.v y).ownBlock=some g->g∈S.blk n:=λy t g hg=>(S.kS n g).2 ⟨y,t,hg⟩;have I:o∈S.blk n:=UX p hp o (by rw[f];rfl);have J:∀y,y<n->y≠p->(S.v y).ownBlock≠some o:=λy t a=>F.sep p y hp t (Ne.symm a) o (by rw[f];rfl);have K:∀y,y<n->y≠p->∀Y,ae [ba] (W.setCell ⟨o,i,none⟩ (.int .i64 (p:Int))) Y->Y.ownsRow lo 3 1 (S.v y) (S.k y).length (aZ (S.k y)):=λy t a Y hw=>
  au (au (F.own y t) m (λk r s=>by simp at s;subst s;exact J y t a r)) hw (λk r s=>by have:=((F.own y t).lt k r).1;simp at s;omega)
 have L:∀Y,ae [ba] (W.setCell ⟨o,i,none⟩ (.int .i64 (p:Int))) Y->Y.ownsRow lo 3 1 (S.v p) (setAt (S.k p) x p).length (aZ (setAt (S.k p) x p)):=λY hw=>by
  rw[R,f];exact au Q hw (λk r s=>by simp[Value.ownBlock] at r;simp at s;omega)
 have UF:=χ K;have M:=χ L;have HM:=χ UX;have H0:=χ F;have OK:=χ B;have HVX:=χ D;have HVP:=χ f;have htop:=B.top;clear A R B F D f z hi J K L UX;rcases htop with rfl|⟨q,rfl,hq,hqx,hqp,hqm⟩
 .go_wp2_with (first
   |((with_reducible refine aP kI ?_))
   |(((with_reducible refine kA1.mono ?_));rintro e w2 ⟨rfl,Xy,l⟩)
   | (((with_reducible refine (T _ Xy l).mono ?_));rintro e w3 ⟨rfl,C,N⟩;have c3:=C.head.cell 0 ω;have d3:=C.row.cell (x*2+1) ω;have e3:=C.row.free (x*2+1)))
  go_ret;have b:=(l.trans N).setCell (p:=⟨ba,x*2+1,none⟩) (Α σ) (.int .i64 (-1))
  have G:gH (w3.setCell ⟨ba,x*2+1,none⟩ (.int .i64 (-1))) bt ba n (dX (iI S x p (-1))):=(C.set (x*2+1) (.int .i64 (-1))).ext (λj hj=>by
   rw[←Ev S x p (-1) OK.out.ne j];unfold O9
   rw [HVX.out,HVP.out];rfl)
  refine⟨rfl,H0.out.lift OK.out G (Χ m.size b.size) (λy t=>?_),(hu0.trans (m.mono (by simp;exact Β I))).trans (b.mono σ)⟩;unfold iI;simp only
  by_cases c:y=x
  .rw[Δ c,Δ c];exact M.out _ b
  .rw[Γ c,Γ c]
   by_cases a:y=p
   .rw[Δ a,Δ a];exact UF.out x P OK.out.ne _ b
   .rw[Γ a,Γ a,Γ ω];exact UF.out y t a _ b
 .obtain⟨j,hjl,O,hj⟩:=yT _ _ hqm;have hoq:=H0.out.own q hq;obtain⟨Z,cq,E,hq1,hq2,hqc,hqm2,hqx2,hqf⟩:=fU hoq ω;have b4:((q:Int) != -1)=true:=by rw[bne_iff_ne];omega
  have YX:=UF.out q hq hqp;rw[E] at YX;have U:=λW4 h4=>Ff W4 lo _ (S.k q) p (jD.vP (YX W4 h4));rw[O] at U;have HJ:=χ O;have HJ2:=χ hj;have HVQ:=χ E;have X:=oJ S q;rw[E] at X;have HZ:=χ X;clear O hj E X hoq hqx2 hqf hab
  go_wp2_with (first
   |((with_reducible refine aP kI ?_))
   |(((with_reducible refine kA1.mono ?_));rintro e w2 ⟨rfl,Xy,l⟩)
   | (((with_reducible refine (T _ Xy l).mono ?_));rintro e w3 ⟨rfl,C,N⟩;have c3:=C.head.cell 0 ω;have d3:=C.row.cell (x*2+1) ω;have e3:=C.row.free (x*2+1);have G:=C.set (x*2+1) (.int .i64 (q:Int));have b:=(l.trans N).setCell (p:=⟨ba,x*2+1,none⟩) (Α σ) (.int .i64 (q:Int));have c4:=G.head.cell 0 ω;have d4:=G.row.cellAt (q*2) ω (v:=.slice (some (Z:Nat)) (S.k q).length cq) (by
     rw [Γ ω,sD _ _ _ _ ω,oP _ _ _ _ ω,sD _ _ _ _ ω,oP _ _ _ _ ω];exact HZ.out);have o4:=YX _ b;have d5:=o4.cellAt j ω;have e5:=o4.frozenAt j;rw [show (aZ (S.k q))[j]?=some (.int .i64 (p:Int)) by unfold aZ;rw [ϑ,HJ2.out];rfl] at d5;have kI3:=U _ b;clear YX U)
   | ((with_reducible refine aP kI3 ?_)))
  go_ret
  have hN5:gH (w3.setCell ⟨ba,x*2+1,none⟩ (.int .i64 (q:Int))) bt ba n (dX (iI S x p q)):=(C.set (x*2+1) (.int .i64 (q:Int))).ext (λj hj=>by
   rw[←Ev S x p q OK.out.ne j];unfold O9
   rw [HVX.out,HVP.out];rfl)
  have YT:ae [Z] (w3.setCell ⟨ba,x*2+1,none⟩ (.int .i64 (q:Int))) ((w3.setCell ⟨ba,x*2+1,none⟩ (.int .i64 (q:Int))).setCell ⟨Z,j,none⟩ (.int .i64 (x:Int))):=(ae.refl _ _).setCell (Α σ) _;have hgq:(S.v q).ownBlock=some Z:=by rw[HVQ.out];rfl
  have UH:∀y,y<n->y≠q->∀k,(S.v y).ownBlock=some k->k∉[Z]:=λy t H k r s=>by
   simp at s;subst s;exact H0.out.sep y q t hq H k r hgq
  refine⟨rfl,H0.out.lift OK.out (hN5.upd YT ζ ζ) (Χ (Χ m.size b.size) YT.size) (λy t=>?_),((hu0.trans (m.mono (by simp;exact Β I))).trans (b.mono σ)).trans (YT.mono (by simp;exact Β (HM.out q hq Z hgq)))⟩;unfold iI;simp only
  by_cases c:y=x
  .rw[Δ c,Δ c];exact au (M.out _ b) YT (UH p hp (Ne.symm hqp))
  .rw[Γ c,Γ c]
   by_cases a:y=p
   .rw[Δ a,Δ a];exact au (UF.out x P OK.out.ne _ b) YT (UH x P (Ne.symm hqx))
   .rw[Γ a,Γ a]
    by_cases H:y=q
    .subst H;rw[Δ rfl,lC,HVQ.out];have:=IX o4 j (.int .i64 (x:Int));rw[←Fu] at this;unfold setAt;rw[HJ.out];exact this
    .rw[Γ ω];exact au (UF.out y t a _ b) YT (UH y t H)
def bB(w:World)(base:Nat)(v:Value)(xs:List Int):Prop:=
 (v=.slice none 0 0/\xs=[])\/
 ∃g off cap cur,v=.slice (some ⟨g,off,none⟩) xs.length cap/\base<=g/\w.heap[g]?=some (.cells cur 3 (0,0))/\xs.length<=cap/\cap<=9223372036854775807/\off+cap<=cur.size/\∀j u,xs[j]?=some u->cur[off+j]?=some (.int .i64 u)
def bB.nil(w:World)(base:Nat):bB w base (.slice none 0 0) []:=Α ⟨rfl,rfl⟩
def bB.jd{w:World}{base:Nat}{v:Value}{xs:List Int}(h:w.ownsRow base 3 1 v xs.length (aZ xs)):bB w base v xs:=by
 rcases h.2 with⟨rfl,h0⟩|⟨g,cap,cur,rfl,hb,hg,hn,hc,hs,ht⟩
 .exact Α ⟨rfl,ϙ h0⟩
 .refine Β ⟨g,0,cap,cur,rfl,hb,hg,hn,by unfold maxLen at hc;exact hc,ω,λj u a=>?_⟩;have b:j<xs.length:=(List.getElem?_eq_some_iff.1 a).1;have:(aZ xs)[j]?=some (.int .i64 u):=by unfold aZ;rw[ϑ,a];rfl
  grind
def Zq{w:World}{g:Nat}{o:Obj}(h:w.heap[g]?=some o):g<w.heap.size:=by
 grind
def bB.lt{w:World}{base:Nat}{v:Value}{xs:List Int}(h:bB w base v xs)(g:Nat)(a:v.ownBlock=some g):base<=g/\g<w.heap.size:=by
 rcases h with⟨rfl,_⟩|⟨g',off,cap,cur,rfl,hb,hh,_⟩
 .cases a
 .simp only[Value.ownBlock,ϖ] at a
  grind
def bB.mono{w:World}{base a:Nat}{v:Value}{xs:List Int}(h:bB w base v xs)(f:a<=base):bB w a v xs:=by
 rcases h with h|⟨d,off,cap,b,rfl,c,e⟩
 .exact Α h
 .exact Β ⟨d,off,cap,b,rfl,Χ f c,e⟩
def bB.upd{w w':World}{F:List Nat}{base:Nat}{v:Value}{xs:List Int}(h:bB w base v xs)(f:ae F w w')(i:∀g,v.ownBlock=some g->g∉F):bB w' base v xs:=by
 rcases h with h|⟨g,off,cap,a,rfl,c,b,d,e⟩
 .exact Α h
 .exact Β ⟨g,off,cap,a,rfl,c,by rw[f.block g (Zq b) (i g rfl)];exact b,d,e⟩
def bB.shape{w:World}{base:Nat}{v:Value}{xs:List Int}(h:bB w base v xs):
  ∃a cap,v=.slice a xs.length cap/\xs.length<=cap/\cap<=9223372036854775807/\∀j u,xs[j]?=some u->∃g off,a=some ⟨g,off,none⟩/\w.cell? ⟨g,off+j,none⟩=some ((u:Int):V):=by
 rcases h with⟨rfl,rfl⟩|⟨g,off,cap,cur,rfl,hb,hh,h1,h2,h3,h4⟩
 .exact⟨none,0,rfl,Θ _,ω,λj u b=>by simp at b⟩
 .refine⟨_,cap,rfl,h1,h2,λj u b=>⟨g,off,rfl,?_⟩⟩;unfold World.cell?
  grind
def bB.lit(w:World)(base:Nat)(x:Int)(a:base<=w.heap.size):bB (w.alloc (.cells #[x] 3)) base (.slice (some w.heap.size) 1 1) [x]:=
 bB.jd (qz w [.int .i64 x] 3 base 1 1 rfl a μ)
def tailV(v:Value):Value:=match v with | .slice a n c=>.slice (if c=1 then a else a.map (·.add 1)) (n-1) (c-1)|v=>v
def yA(w:World)(a:Option Addr)(n c:Nat)(b:1<=n)(d:n<=9223372036854775807):
  (Instr.slice 77 (.slice a n c) (some (.int .i64 1)) none none).run prog w=.ok (tailV (.slice a n c)) w:=by
 have hs:(sizeOf 3).run prog w=.ok 1 w:=by kernel_rfl
 unfold Instr.slice Instr.sliceBounds;simp[run_underlying underlying77,go_sem,hs,tailV];intro h;omega
def bB.tail{w:World}{base:Nat}{v:Value}{x:Int}{xs:List Int}(h:bB w base v (x::xs)):bB w base (tailV v) xs/\(tailV v).ownBlock=v.ownBlock:=by
 rcases h with⟨rfl,h0⟩|⟨g,off,cap,cur,rfl,hb,hh,h1,h2,h3,h4⟩
 .cases h0
 .simp only[Ω] at h1 ⊢;unfold tailV;simp only[Nat.add_sub_cancel]
  by_cases b:cap=1
  .subst b;have:xs=[]:=ϙ ω;subst this;rw[Δ rfl];exact⟨Β ⟨g,off,0,cur,rfl,hb,hh,Θ _,ω,ω,λj u a=>by simp at a⟩,rfl⟩
  .rw[Γ b];have e:(some (⟨g,off,none⟩:Addr)).map (·.add 1)=some ⟨g,off+1,none⟩:=by simp[Addr.add_lit]
   rw[e];refine⟨Β ⟨g,off+1,cap-1,cur,rfl,hb,hh,ω,ω,ω,λj u a=>?_⟩,rfl⟩;have:=h4 (j+1) u (by grind)
   grind
def tT(a:Option Addr)(n c:Nat):∃b,tailV (.slice a n c)=.slice b (n-1) (c-1):=⟨_,rfl⟩
def Bf{w:World}{base:Nat}{v:Value}{xs:List Int}(q:bB w base v xs)(t s:TypeId)(D:prog.underlying t=some (.slice 3))(g1:Nat)(u:Int)(r:w.cell? g1=some (u:V))(I:xs.length+1<=1000000)(d:base<=w.heap.size):
  ∃v' w',(Builtin.append_ #[t,t] s #[v,.slice (some g1) 1 1]).run prog w=.ok v' w'/\bB w' base v' (xs++[u])/\ae v.ownBlock.toList w w'/\(∀k,v'.ownBlock=some k->v.ownBlock=some k\/w.heap.size<=k):=by
 obtain⟨i,z,l,c,m⟩:=info_parts gN;have a:∀j x,[Value.int .i64 u][j]?=some x->w.cell? ((⟨g1,0,none⟩:Addr).add j)=some x:=λj x b=>by
  match j,b with
  |0,b=>simp at b;subst b;rw[Aa];exact r
 have E:∀x∈[Value.int .i64 u],x.oneCell'=true:=by simp[Value.oneCell']
 rcases q with⟨rfl,rfl⟩|⟨g,off,cap,cur,rfl,hb,hh,hc1,hc2,hc3,hc4⟩
 .obtain⟨v',w',A,n,B,_⟩:=run_append_own (P:=prog) w w.heap.size t s 3 i (.int .i64 0) 1 8 D z l c m rfl δ (.slice none 0 0) 0 [] (World.ownsRow_nil w _ _ _) ⟨g1,0,none⟩ 1 1 [.int .i64 u] rfl a E μ ω (Θ _);exact⟨v',w',A,(bB.jd (xs:=[u]) n).mono d,(ae.refl _ _).grown B (λk f=>by cases f),λk f=>Β (n.lt k f).1⟩
 .by_cases p:xs.length+1<=cap
  .have F:=run_firstCells_some (P:=prog) w i.size 1 ⟨g1,0,none⟩ 1 1 [.int .i64 u] (by rw[c];rfl) a;have o:=run_storeCells_at prog g (off+xs.length*i.size) 3 [.int .i64 u] 0 cur w hh (by rw[c];simp;omega) E;simp only[ϔ] at o;have h:(Builtin.append_ #[t,t] s #[.slice (some ⟨g,off,none⟩) xs.length cap,.slice (some g1) 1 1]).run prog w=.ok (.slice (some ⟨g,off,none⟩) (xs.length+1) cap) (w.setRow g (cur.toList.take (off+xs.length*i.size)++[Value.int .i64 u]++cur.toList.drop (off+xs.length*i.size+1)).toArray):=by
    simp[Builtin.append_,run_underlying D,sizeOf,typeInfo,z,Builtin.lenOf,p,F,Addr.add_lit];have:=o;simp at this;simp[this]
   rw[c,Nat.mul_one] at h;refine⟨_,_,h,Β ⟨g,off,cap,_,by grind,hb,setRow_heap w g cur _ _ _ hh,by grind,hc2,?_,λj x b=>?_⟩,?_,λk f=>Α f⟩
   .simp;omega
   .grind
   .exact⟨rfl,rfl,rfl,σ,λk f H=>setRow_other w g k _ (λe=>H (by simp[Value.ownBlock,e]))⟩
  .obtain ⟨v',w',A,n,B⟩:=run_append_arg_grows (P:=prog) w t s 3 i (.int .i64 0) 1 8 D z l c m rfl δ ⟨g,off,none⟩ xs.length cap (aZ xs) (by rw [iq,Nat.mul_one]) (λj x b=>by
    unfold aZ at b;rw[ϑ] at b;cases C:xs[j]? with
    |none=>rw[C] at b;cases b
    |some y=>
     rw[C] at b;simp at b;subst b;rw[Addr.add_lit];unfold World.cell?;simp only[hh]
     simpa using hc4 j y C) ⟨g1,0,none⟩ 1 1 [.int .i64 u] rfl a ω μ ω
   have G:w'.ownsRow w.heap.size 3 1 v' (xs++[u]).length (aZ (xs++[u])):=by rw[υ,dO];exact n
   exact⟨v',w',A,(bB.jd G).mono d,(ae.refl _ _).grown B (λk f=>by cases f),λk f=>Β (n.lt k f).1⟩
def wZ{o:Oper}{a:Act}{w:World}{K:Act->World->Prop}{Q:Exit->Act->World->Prop}(s x:Operand)(t:TypeId)
  (j:o.op=.call { callee:=.builtin .append,args:=#[s,x],argTypes:=#[t,t] }) (l:prog.underlying t=some (.slice 3))
  (base:Nat) (v:Value) (xs:List Int) (hs:a.eval s=v) (c:bB w base v xs)
  (g1:Nat) (u:Int) (m:a.eval x=.slice (some g1) 1 1) (d:w.cell? g1=some (u:V)) (n:xs.length+1<=1000000) (b:base<=w.heap.size)
  (h:∀v' w',bB w' base v' (xs++[u])->ae v.ownBlock.toList w w'->(∀k,v'.ownBlock=some k->v.ownBlock=some k\/w.heap.size<=k)->K (a.put o.dst v') w'):Oper.wp prog o a w K Q:=by
 obtain⟨v',w',e,f,g,i⟩:=Bf c t o.type l g1 u d n b;unfold Oper.wp execOp;simp only[j,resolve,invoke,builtin,Sem.run_bind,Sem.run_pure,Result.andThen_ok,List.map_toArray,List.map_cons,List.map_nil,hs,m,e];exact h _ _ f g i
def tV{c:Array Oper}{o:Oper}{a:Act}{w:World}{K:Act->World->Prop}{Q:Exit->Act->World->Prop}{E:Prop}(f:o.guard=none)(s x:Operand)(t:TypeId)
  (i:o.op=.call { callee:=.builtin .append,args:=#[s,x],argTypes:=#[t,t] }) (j:prog.underlying t=some (.slice 3))
  (base:Nat) (v:Value) (xs:List Int) (hs:a.eval s=v) (d:bB w base v xs)
  (g1:Nat) (u:Int) (l:a.eval x=.slice (some g1) 1 1) (e:w.cell? g1=some (u:V)) (m:xs.length+1<=1000000) (b:base<=w.heap.size)
  (h:∀v' w',bB w' base v' (xs++[u])->ae v.ownBlock.toList w w'->(∀k,v'.ownBlock=some k->v.ownBlock=some k\/w.heap.size<=k)->K (a.put o.dst v') w'):
  if Region.wanted o (yielded c a.tmps)=true then Oper.wp prog o a w K Q else E:=by
 have g:Region.wanted o (yielded c a.tmps)=true:=by simp[Region.wanted,f]
 rw[Δ g];exact wZ s x t i j base v xs hs d g1 u l e m b h
def ym{c:Array Oper}{rest:List Oper}{o:Oper}{a:Act}{w:World}{Q:Exit->Act->World->Prop}(f:o.guard=none)(s x:Operand)(t:TypeId)
  (m:o.op=.call { callee:=.builtin .append,args:=#[s,x],argTypes:=#[t,t] }) (n:prog.underlying t=some (.slice 3))
  (base:Nat) (v:Value) (xs:List Int) (hs:a.eval s=v) (d:bB w base v xs)
  (g1:Nat) (u:Int) (p:a.eval x=.slice (some g1) 1 1) (e:w.cell? g1=some (u:V)) (q:xs.length+1<=1000000) (b:base<=w.heap.size)
  (h:∀v' w',bB w' base v' (xs++[u])->ae v.ownBlock.toList w w'->(∀k,v'.ownBlock=some k->v.ownBlock=some k\/w.heap.size<=k)->wpList prog c Q rest (a.put o.dst v') w'):wpList prog c Q (o::rest) a w:=
 wpList_plain f λ_ g=>wZ s x t m n base v xs hs d g1 u p e q b λv' w' i j l=>g _ _ (h v' w' i j l)
def lS.tail{w:World}{F:List Nat}{v:Value}{x:Int}{xs:List Int}(h:lS w F v (x::xs)):lS w F (tailV v) xs:=by
 obtain⟨a,cap,rfl,e,o,b⟩:=h;obtain⟨g,off,rfl,f,i,_⟩:=b 0 x rfl;simp only[Ω] at e ⊢;unfold tailV;simp only[Nat.add_sub_cancel];refine⟨_,_,rfl,ω,ω,λj u n=>?_⟩;have m:j<xs.length:=(List.getElem?_eq_some_iff.1 n).1;rw[Γ ω];obtain⟨g2,c,d,k,l,p⟩:=b (j+1) u (by grind);simp only[ϖ,Addr.mk.injEq,and_true] at d;obtain⟨rfl,rfl⟩:=d;exact⟨g,off+1,by simp[Addr.add_lit],f,i,by grind⟩
def lS.aaW{w:World}{F:List Nat}{lo:Nat}{v:Value}{xs:List Int}(h:jD w lo v xs.length (aZ xs))(n:∀g,g∈F->g<lo):lS w F v xs:=by
 obtain⟨a,cap,rfl,c,d,e⟩:=h.open;refine⟨a,cap,rfl,d,c,λj u b=>?_⟩;have l:j<xs.length:=(List.getElem?_eq_some_iff.1 b).1;obtain⟨g,rfl,f,i,k⟩:=e ω;exact⟨g,0,rfl,i,λm=>by grind,by rw[ϓ];exact k j _ (by unfold aZ;rw[ϑ,b];rfl)⟩
def lS.upd{w w':World}{F G:List Nat}{v:Value}{xs:List Int}(h:lS w F v xs)(d:ae G w w')(n:∀g,g∈G->g∈F):lS w' F v xs:=by
 obtain⟨a,cap,rfl,e,f,i⟩:=h;refine⟨a,cap,rfl,e,f,λj u l=>?_⟩;obtain⟨g,off,rfl,b,c,k⟩:=i j u l;exact⟨g,off,rfl,Ψ b d.size,c,by rw[d.cell b (λm=>c (n _ m))];exact k⟩
def TV(bt ba lo n:Nat)(S:CS)(v:Value)(l:List Int)(w:World)(h:bu w bt ba lo n S)(F:List Nat)(R:lS w F v l):
  Calls prog 190 #[bt,v] w λe w'=>e=.returned (.bool (Qk n S l))/\w'=w:=by
 obtain⟨a,cap,rfl,M,N,hp⟩:=R;have G:=χ hp;clear hp;unfold Qk;generalize o:l.length=j at *;have m:=χ o;clear o;have H:=λx=>xX bt ba lo n S x w h;have A:=λx=>tO bt ba lo n S x w h;clear h
 go_enter func190,ntmps190
 go_wp2
 go_loop [9] (λi=>∃k:Nat,k<=j/\i=.int .i64 (k:Int)/\yB n S l k=true) (λi=>j-(intOf i).toNat)
 case atStart=>exact⟨0,ω,rfl,rfl⟩
 case round=>
  obtain⟨k,T,rfl,t⟩:=hrel
  by_cases q:k<j
  .obtain⟨g,off,rfl,_,_,O⟩:=G.out k (l.getD k 0) (by simp[φ,m.out,q]);have B:0<k->w.cell? ⟨g,off+(k-1),none⟩=some (.int .i64 (l.getD (k-1) 0)):=λs=>by
    have r:k-1<l.length:=by rw[m.out];omega
    obtain⟨g2,E,U,_,_,c⟩:=G.out (k-1) (l.getD (k-1) 0) (by simp[φ,r])
    grind
   have f:=LV n S l k;have p:=U7 n S l k t;rw[t,Bool.true_and] at f;unfold rowOk at f p;have I:=χ f;have J:=χ p;have u:=H (l.getD k 0);have K:=A (l.getD k 0);have L:=A (l.getD (k-1) 0);clear f p t H A;generalize l.getD k 0=x at *;generalize l.getD (k-1) 0=y at *;generalize qJ n S x=b at *;generalize qE n S x=d at *;generalize qE n S y=D at *;cases b with
   |false=>
    go_wp2_with (go_at_call 189;refine u.mono ?_;rintro e w' ⟨rfl,rfl⟩)
    go_ret;exact⟨bF (J.out rfl _ q).symm,rfl⟩
   |true=>
    by_cases s:k=0
    .subst s;clear B;rw[ϔ] at O
     go_wp2_with (go_at_call 189;refine u.mono ?_;rintro e w' ⟨rfl,rfl⟩)
     go_round
     case rel=>exact⟨1,ω,rfl,I.out⟩
     case measure=>simp[intOf];omega
    .have P:=B ω;have r:1<=k:=ω;clear B;obtain⟨z,rfl⟩:∃z,k=z+1:=⟨k-1,ω⟩;simp only[Nat.add_sub_cancel] at P
     by_cases Q:D<d
     .have C:¬(d<=D):=ω
      go_wp2_with (first|((with_reducible refine u.mono ?_);rintro e w' ⟨rfl,rfl⟩)|((with_reducible refine L.mono ?_);rintro e w' ⟨rfl,rfl⟩)|((with_reducible refine K.mono ?_);rintro e w' ⟨rfl,rfl⟩))
      go_round
      case rel=>exact⟨z+1+1,ω,by go_num,by rw[I.out];simp[Q]⟩
      case measure=>simp[intOf];omega
     .have C:d<=D:=ω
      go_wp2_with (first|((with_reducible refine u.mono ?_);rintro e w' ⟨rfl,rfl⟩)|((with_reducible refine L.mono ?_);rintro e w' ⟨rfl,rfl⟩)|((with_reducible refine K.mono ?_);rintro e w' ⟨rfl,rfl⟩))
      go_ret;exact⟨bF (J.out ζ _ q).symm,rfl⟩
  .obtain rfl:k=j:=ω;go_wp2;go_ret;exact⟨by first|rfl|exact bF t.symm,rfl⟩
def I1(w:World)(F:List Nat)(v:Value)(l:List Int)(x:Int)(h:lS w F v l):
  Calls prog 180 #[v,x] w λe w'=>e=.returned (idxOf l x:Int)/\w'=w:=by
 obtain⟨a,cap,rfl,r,s,hp⟩:=h;have t:=χ hp;clear hp;generalize f:l.length=c at *;have d:=χ f;clear f
 go_enter func180,ntmps180
 go_wp2
 go_loop [8] (λi=>∃q:Nat,q<=c/\i=.int .i64 (q:Int)/\x∉l.take q) (λi=>c-(intOf i).toNat)
 case atStart=>exact⟨0,ω,rfl,σ⟩
 case round=>
  obtain⟨q,u,rfl,g⟩:=hrel
  by_cases o:q<c
  .obtain⟨y,j⟩:∃y,l[q]?=some y:=⟨l[q]'(by rw[d.out];exact o),σ⟩;obtain⟨z,off,rfl,_,_,A⟩:=t.out q y j
   by_cases b:x=y
   .subst b;have p:=Ka l x q g j;have m:=χ p;clear g j p;go_wp2;go_ret;exact⟨jW m.out.symm,rfl⟩
   .have B:(x == y)=false:=by simpa using b
    have k:x∉l.take (q+1):=by rw[ώ,j];simp;exact⟨g,b⟩
    have n:=χ k;clear g j k b;go_wp2
    go_round
    case rel=>exact⟨q+1,ω,by go_num,n.out⟩
    case measure=>simp[intOf];omega
  .obtain rfl:q=c:=ω;rw[List.take_of_length_le (by rw[d.out];omega)] at g;have m:=χ (Dc l x g);clear g;go_wp2;go_ret;exact⟨jW m.out.symm,rfl⟩
def I6(w:World)(F:List Nat)(v:Value)(l:List Int)(x:Int)(h:lS w F v l):
  Calls prog 193 #[v,x] w λe w'=>e=.returned (.bool (decide (x∈l)))/\w'=w:=by
 have b:=I1 w F v l x h;obtain⟨a,cap,rfl,_⟩:=h
 by_cases c:x∈l
 .obtain⟨i,f,d,_⟩:=yT l x c;rw[d] at b
  go_enter func193,ntmps193
  go_wp2_with (((with_reducible refine aP b ?_)))
  go_ret;exact⟨bF (by simp[c]),rfl⟩
 .rw[Dc l x c] at b
  go_enter func193,ntmps193
  go_wp2_with (((with_reducible refine aP b ?_)))
  go_ret;exact⟨bF (by simp[c]),rfl⟩
def Ug(w:World)(F:List Nat)(b:Nat)(v:Value)(l:List Int)(x:Int)(h:lS w F v l)(d:aQ w b 77 1 (λ_=>v)):
  Calls prog 192 #[x,b] w λe w'=>e=.returned (.bool (decide (x∈l)))/\w'=w:=by
 have c:=I6 w F v l x h;have f:=d.cell 0 ω;obtain⟨a,cap,rfl,_⟩:=h
 go_enter func192,ntmps192
 go_wp2_with (((with_reducible refine aP c ?_)))
 go_ret;exact⟨rfl,rfl⟩
def Nk(w:World)(F:List Nat)(s:Nat)(t v:Value)(A l:List Int)(G:lS w F t A)(h:lS w F v l)(u:aQ w s 77 1 (λ_=>v)):
  Calls prog 188 #[t,.func (Fn.func 192) #[] #[s]] w λe w'=>(∃i:Int,e=.returned i/\decide (0<=i)=A.any (λx=>decide (x∈l)))/\w'=w:=by
 have n:=λx=>Ug w F s v l x h u;clear h u;obtain⟨a,cap,rfl,z,B,hp⟩:=G;have C:=χ hp;clear hp;generalize f:A.length=b at *;have c:=χ f;clear f
 go_enter func188,ntmps188
 go_wp2
 go_loop [8] (λi=>∃q:Nat,q<=b/\i=.int .i64 (q:Int)/\(A.take q).any (λx=>decide (x∈l))=false) (λi=>b-(intOf i).toNat)
 case atStart=>exact⟨0,ω,rfl,σ⟩
 case round=>
  obtain⟨q,H,rfl,g⟩:=hrel
  by_cases r:q<b
  .obtain⟨y,k⟩:∃y,A[q]?=some y:=⟨A[q]'(by rw[c.out];exact r),σ⟩;obtain⟨I,off,rfl,_,_,J⟩:=C.out q y k;have o:=n y
   by_cases j:y∈l
   .rw[Ν j] at o;have d:A.any (λx=>decide (x∈l))=true:=List.any_eq_true.2 ⟨y,Η k,by simpa using j⟩;have D:=χ d;clear g k j n d
    go_wp2_with (((with_reducible refine aP o ?_)))
    go_ret;exact⟨⟨_,rfl,by rw[D.out];simp⟩,rfl⟩
   .rw[Ξ j] at o;have m:(A.take (q+1)).any (λx=>decide (x∈l))=false:=by rw[ώ,k,List.any_append,g];simpa using j
    have p:=χ m;clear g k m j n
    go_wp2_with (((with_reducible refine aP o ?_)))
    go_round
    case rel=>exact⟨q+1,ω,by go_num,p.out⟩
    case measure=>simp[intOf];omega
  .obtain rfl:q=b:=ω;rw[List.take_of_length_le (by rw[c.out];omega)] at g;have E:=χ g;clear g n;go_wp2;go_ret;exact⟨⟨_,rfl,by rw[E.out];rfl⟩,rfl⟩
def DL(w:World)(F:List Nat)(c:Nat)(d v:Value)(A l:List Int)(k:lS w F d A)(h:lS w F v l)(m:aQ w c 77 1 (λ_=>v)):
  Calls prog 191 #[d,.func (Fn.func 192) #[] #[c]] w λe w'=>e=.returned (.bool (A.any (λx=>decide (x∈l))))/\w'=w:=by
 have o:=Nk w F c d v A l k h m;generalize A.any (λx=>decide (x∈l))=b at *;obtain⟨a,cap,rfl,_⟩:=k;clear h m
 go_enter func191,ntmps191
 go_wp2_with ((with_reducible refine o.mono ?_);rintro e n ⟨⟨i,rfl,f⟩,g⟩;rw[g];clear g n;have j:=χ f;clear f)
 go_ret;exact⟨bF (by first|exact j.out|(rw[←j.out];simp)),rfl⟩
def qA(S:CS)(v:Value)(a b:Nat):CS:=(S.Da a v (S.k a++[(b:Int)])).uW b a
def J2(bt ba lo n:Nat)(S:CS)(a b:Nat)(w:World)(h:bu w bt ba lo n S)(z:a<n)(hb:b<n)(s:qJ n S a=true)(t:qJ n S b=true)(I:a≠b)(T:qE n S a=qE n S b)(x:(S.k a).length+1<=n):
    Calls prog 196 #[bt,(a:Int),(b:Int)] w λe w'=>∃v,e=.returned true/\bu w' bt ba lo n (qA S v a b)/\ae (ba::S.blk n) w w'/\(∀g,g∈(qA S v a b).blk n->g∈S.blk n\/w.heap.size<=g):=by
  have U:=h.le;have X:=h.XL;have Y:=h.Tf;have M:=h.low;have Z:=h.ne;have N:=xX bt ba lo n S a w h;have O:=xX bt ba lo n S b w h;have P:=tO bt ba lo n S a w h;have k4:=tO bt ba lo n S b w h;rw[s] at N;rw[t] at O;rw[T] at P;have b1:((a:Int) == (b:Int))=false:=ζ;have D:=h.own a z;obtain⟨B,cap,K,L⟩:=bz D;have d:∀g,g∈(S.v a).ownBlock.toList->lo<=g/\g<w.heap.size:=λg c=>D.lt g (by simpa using c);have Q:∀W,ae (S.v a).ownBlock.toList w W->W.cell? bt=some (.slice (some ba) n n):=λW i=>by
    rw[i.cell h.head.lt (λk=>by have:=d _ k;simp at this;omega)];exact h.head.cell 0 ω
  have R:∀W,ae (S.v a).ownBlock.toList w W->W.cell? ⟨ba,a*2,none⟩=some (S.v a):=λW i=>by
    rw[i.cell h.row.lt (λk=>by have:=d _ k;simp at this;omega)];exact h.row.cellAt (a*2) ω (oJ S a)
  have r3:∀W,ae (S.v a).ownBlock.toList w W->W.cell? ⟨ba,b*2+1,none⟩=some (.int .i64 (S.u b)):=λW i=>by
    rw[i.cell h.row.lt (λk=>by have:=d _ k;simp at this;omega)];exact h.row.cellAt (b*2+1) ω (wH S b)
  have q1:∀W,ae (S.v a).ownBlock.toList w W->W.frozen? ⟨ba,a*2,none⟩=false:=λW i=>by
    rw[i.frozen h.row.lt (λk=>by have:=d _ k;simp at this;omega)];exact h.row.free _
  have q2:∀W,ae (S.v a).ownBlock.toList w W->W.frozen? ⟨ba,b*2+1,none⟩=false:=λW i=>by
    rw[i.frozen h.row.lt (λk=>by have:=d _ k;simp at this;omega)];exact h.row.free _
  have E:ae (S.v a).ownBlock.toList w w:=ae.refl _ _;have H:=χ h;have HV:=χ K;have hk:=iq (S.k a);generalize r:S.v a=va at *;have f:=χ r;subst K;clear h s t T r I
  go_enter func196,ntmps196
  go_wp2_with (first
    |((with_reducible refine aP N ?_))
    |((with_reducible refine aP O ?_))
    |((with_reducible refine aP P ?_))
    | ((with_reducible refine aP k4 ?_)))
  have s1:ae (Value.slice B (S.k a).length cap).ownBlock.toList w (w.drew.alloc (.cells #[(b:Int)] 3)):=E.drew.alloc _;have a1:=Q _ (E.alloc (.cells #[(b:Int)] 3));have y:=R _ (E.alloc (.cells #[(b:Int)] 3))
  go_region_law
    (first
      | (refine kX rfl _ _ 77 rfl lo 3 (.int .i64 0) 1 8 underlying77 gN rfl δ (.slice B (S.k a).length cap) (S.k a).length (aZ (S.k a)) rfl (D.drew.alloc _) w.heap.size [.int .i64 (b:Int)] rfl rfl (λj u hj=>pM w [.int .i64 (b:Int)] 3 j u hj) (by simp [Value.oneCell']) μ ω ζ ?_
         intro v2 J l A m;have o:ae (Value.slice B (S.k a).length cap).ownBlock.toList w J:=s1.trans A
         obtain ⟨y,cap2,rfl,C⟩:=bz l))
  all_goals
    have p:J.ownsRow lo 3 1 (.slice y ((S.k a).length+1) cap2) (S.k a++[(b:Int)]).length (aZ (S.k a++[(b:Int)])):=by rw[dO,υ];exact l
    have q:=H.out.XZ a z (.slice y ((S.k a).length+1) cap2) (S.k a++[(b:Int)]) o (λg c=>by rw [f.out];simpa using c) p (λg c=>by
      rcases m with h|h
      · rw[h] at c;exact Α (by rw[f.out];exact c)
      · rw [h] at c;simp at c;exact Β ω) (by rw [υ];exact x)
    have e0:=q.head.cell 0 ω;have e1:=q.row.cell (b*2+1) ω;have e2:=q.row.free (b*2+1);have HF:=χ q;have F:=χ m;clear q m l p Q R r3 q1 q2;go_wp2;go_ret;refine⟨_,rfl,HF.out.dE b hb a,?_,λg c=>?_⟩
    · refine((o.mono (λg c=>?_)).setCell (Α σ) _).setCell (Α σ) _
      simp only[ρ];refine Β ((S.kS n g).2 ⟨a,z,?_⟩);rw[f.out];simpa using c
    · rcases S.U9 a (.slice y ((S.k a).length+1) cap2) (S.k a++[(b:Int)]) n g c with h|h
      · exact Α h
      · rcases F.out with G|G
        · exact Α ((S.kS n g).2 ⟨a,z,by rw[f.out,←G];exact h⟩)
        · rw[G] at h;simp at h;exact Β ω
end Go.Proofs.YtnpdakpagnpanaaGreat
namespace Go.Proofs.YtnpdakpagnpanaaGreat
open Tryz
def jY(lt:Int->Int->Bool)(a b:Nat):Nat:=if lt b a then b else a
def nU(lt:Int->Int->Bool)(a b:Nat):Nat:=if lt b a then a else b
structure CF where
 k:Nat->List Int
 u:Nat->Int
def CS.f(S:CS):CF:=⟨S.k,S.u⟩
def BR(n:Nat)(F:CF)(x:Int):Bool:=decide (0<=x/\x<n) && F.u x.toNat == -1
def dW(n:Nat)(F:CF)(x:Int):Int:=if 0<=x/\x<n then(F.k x.toNat).length else 0
def abu(n:Nat)(S:CS)(x:Int):qJ n S x=BR n S.f x:=rfl
def aaw(n:Nat)(S:CS)(x:Int):qE n S x=dW n S.f x:=rfl
def iL(F:CF)(a b:Nat):CF:=⟨λy=>if y=a then F.k a++[(b:Int)] else F.k y,λy=>if y=b then(a:Int) else F.u y⟩
def ac2(S:CS)(v:Go.Value)(a b:Nat):(qA S v a b).f=iL S.f a b:=rfl
structure CC where
 F:CF
 A:List Int
 B:List Int
 N:List Int
 O:List Int
 q:Nat
def takeA(n k:Nat)(C:CC):CC:=match C.A with|x::t=>(if dW n C.F x=k then{ C with A:=t,N:=C.N++[x] } else C)|[]=>C
def takeB(n k:Nat)(C:CC):CC:=match C.B with|x::t=>(if dW n C.F x=k then{ C with B:=t,N:=C.N++[x] } else C)|[]=>C
def fV(C:CC):CC:=match C.N with|[x]=>{ C with N:=[],O:=C.O++[x] }|[x,y,z]=>{ C with N:=[y,z],O:=C.O++[x] }|_=>C
def ou(lt:Int->Int->Bool)(C:CC):CC:=match C.N with
 | [x,y]=>{ C with F:=iL C.F (jY lt x.toNat y.toNat) (nU lt x.toNat y.toNat),N:=[(jY lt x.toNat y.toNat:Int)],q:=C.q+1 }
 |_=>C
def Kv(lt:Int->Int->Bool)(n k:Nat)(C:CC):CC:=ou lt (fV (takeB n k (takeA n k C)))
def ig(lt:Int->Int->Bool)(n:Nat):Nat->CC->CC
 |0,C=>C
 |k+1,C=>Kv lt n k (ig lt n k C)
structure OO(dom:Int->Prop)(lt:Int->Int->Bool)(n k:Nat)(C:CC):Prop where
 few:C.N.length<=1
 join:∀x y,(fV (takeB n k (takeA n k C))).N=[x,y]->∃a b:Nat,x=a/\y=b/\dom a/\dom b/\a<n/\b<n/\a≠b/\BR n (fV (takeB n k (takeA n k C))).F a=true/\BR n (fV (takeB n k (takeA n k C))).F b=true/\
  dW n (fV (takeB n k (takeA n k C))).F a=dW n (fV (takeB n k (takeA n k C))).F b/\((fV (takeB n k (takeA n k C))).F.k a).length+1<=n/\((fV (takeB n k (takeA n k C))).F.k b).length+1<=n
 small:C.A.length+C.B.length+C.O.length<=100000
 asked:C.q<=1000000
 ends:C.A≠[]\/C.B≠[]\/C.N≠[]->k<=n
def tA(n k:Nat)(A:List Int)(F:CF):Bool:=match A with|x::_=>dW n F x == (k:Int)|[]=>false
def tot(C:CC):Nat:=C.A.length+C.B.length+C.N.length+C.O.length
def zn(n k:Nat)(C:CC):tot (takeA n k C)=tot C/\(takeA n k C).N.length<=C.N.length+1:=by
 unfold takeA tot
 grind
def z8(n k:Nat)(C:CC):tot (takeB n k C)=tot C/\(takeB n k C).N.length<=C.N.length+1:=by
 unfold takeB tot
 grind
def Ro(C:CC)(a:C.N.length<=3):tot (fV C)=tot C/\(fV C).N.length<=2:=by
 obtain⟨F,A,B,N,O,q⟩:=C;simp only at a
 match N,a with
 | [],_=>simp[fV,tot]
 | [x],_=>simp[fV,tot];try omega
 | [x,y],_=>simp[fV,tot]
 | [x,y,z],_=>simp[fV,tot];try omega
 |_::_::_::_::_,a=>simp at a;try omega
def Ub(n k:Nat)(C:CC):(fV (takeB n k (takeA n k C))).q=C.q:=by
 have a:∀C,(fV C).q=C.q:=λC=>by unfold fV;split<;>rfl
 have b:∀C,(takeB n k C).q=C.q:=λC=>by
  unfold takeB;split
  .split<;>rfl
  .rfl
 have c:∀C,(takeA n k C).q=C.q:=λC=>by
  unfold takeA;split
  .split<;>rfl
  .rfl
 rw[a,b,c]
