/-
  Lemmas.
-/
import Derived.IntWalk
import Derived.Test.YtnpdakpagnpanaaGreatE03
set_option linter.all false
set_option maxHeartbeats 8000000
set_option maxRecDepth 10000
namespace Go.Proofs.YtnpdakpagnpanaaGreat
open Tryz
open Go Go.RowKit
structure TS where
 l:Nat->Int
 r:Nat->Int
 u:Nat->Int
def TS.none:TS:=⟨λ_=>-1,λ_=>-1,λ_=>-1⟩
def TS.kid(S:TS)(s:Bool)(x:Nat):Int:=if s then S.r x else S.l x
def dZ(S:TS)(j:Nat):Value:=.int .i64 (if j % 3=0 then S.l (j / 3) else if j % 3=1 then S.r (j / 3) else S.u (j / 3))
def rW(S:TS)(x:Nat):dZ S (x*3)=.int .i64 (S.l x):=by unfold dZ;rw[Δ ω,show x*3 / 3=x by omega]
def rT(S:TS)(x:Nat):dZ S (x*3+1)=.int .i64 (S.r x):=by unfold dZ;rw[Γ ω,Δ ω,show(x*3+1) / 3=x by omega]
def vU(S:TS)(x:Nat):dZ S (x*3+2)=.int .i64 (S.u x):=by unfold dZ;rw[Γ ω,Γ ω,show(x*3+2) / 3=x by omega]
structure bL(w:World)(bt ba n:Nat)(S:TS):Prop where
 head:aQ w bt 238 1 (λ_=>.slice (some ba) n n)
 row:aQ w ba 241 (n*3) (dZ S)
 ne:bt≠ba
 le:n<=65536
def bL.upd{w w':World}{F:List Nat}{bt ba n:Nat}{S:TS}(h:bL w bt ba n S)(a:ae F w w')(b:bt∉F)(c:ba∉F):bL w' bt ba n S:=
 ⟨h.head.upd a b,h.row.upd a c,h.ne,h.le⟩
def bL.drewN{w:World}{bt ba n:Nat}{S:TS}(h:bL w bt ba n S)(k:Nat):bL (w.drewN k) bt ba n S:=⟨h.head,h.row,h.ne,h.le⟩
def bL.drew{w:World}{bt ba n:Nat}{S:TS}(h:bL w bt ba n S):bL w.drew bt ba n S:=⟨h.head,h.row,h.ne,h.le⟩
def PO:(prog.info? 241).map (λi=>(i.zero,i.size,i.bytes))=some (some (.agg #[(0:Int),(0:Int),(0:Int)]),3,24):=by kernel_rfl
def yX(n:Nat)(w:World)(h:n<=65536):
  Calls prog 89 #[(n:Int)] w λe w'=>∃bt ba,e=.returned (.tuple #[(bt:Nat),(0:Int)])/\bL w' bt ba n TS.none/\ae [] w w'/\w.heap.size<=bt/\w.heap.size<=ba:=by
 go_enter func89,ntmps89
 go_wp2_with (at_make;refine wpList_make_row rfl _ 236 rfl 241 (.agg #[(0:Int),(0:Int),(0:Int)]) 3 24 underlying236 PO n rfl ω μ ?_;intro o b c)
 have p:=b.lt
 go_loopw [21] (λi wr=>∃(k:Nat) (f:Nat->Value),k<=n/\i=.int .i64 k/\aQ wr o.heap.size 238 1 (λ_=>.slice (some w.heap.size) n n)/\aQ wr w.heap.size 241 (n*3) f/\(∀j,j<k*3->f j=.int .i64 (-1))/\ae [] w wr) (λi _=>n-(intOf i).toNat)
 case atStart=>exact⟨0,_,ω,rfl,eO _ _ _ |>.ext (λj d=>by simp at d;subst d;rfl),b.alloc _,ω,c.alloc _⟩
 case round=>
  obtain⟨k,f,s,rfl,g,a,l,m⟩:=hrel
  by_cases r:k<n
  .have t:=g.cell 0 ω;have u:=a.cell (k*3) ω;have v:=a.cell (k*3+1) ω;have x:=a.cell (k*3+2) ω;have y:=a.free (k*3);have z:=a.free (k*3+1);have A:=a.free (k*3+2);have q:=χ l;clear l;go_wp2
   go_roundw
   case rel=>
    refine⟨k+1,_,ω,by go_num,((g.far _ _ ζ).far _ _ ζ).far _ _ ζ,((a.set _ _).set _ _).set _ _,λj d=>?_,((m.setCell (Β σ) _).setCell (Β σ) _).setCell (Β σ) _⟩
    show(if j=k*3+2 then _ else if j=k*3+1 then _ else if j=k*3 then _ else f j)=_
    split
    .rfl
    .split
     .rfl
     .split
      .rfl
      .exact q.out j ω
   case measure=>simp[intOf];omega
  .obtain rfl:k=n:=ω;go_wp2;go_ret2;exact⟨_,_,rfl,⟨g,a.ext (λj d=>by rw[l j d];unfold dZ TS.none;simp),ω,h⟩,m,c.size,Θ _⟩
def sI(bt ba n:Nat)(S:TS)(x:Int)(w:World)(h:bL w bt ba n S)(b:Bool)(d:b=decide (0<=x/\x<n)):
  Calls prog 247 #[bt,x] w λe w'=>e=.returned b/\w'=w:=by
 have f:=h.head.cell 0 ω;clear h;subst d
 by_cases a:0<=x
 .by_cases c:x<n
  .go_enter func247,ntmps247
   go_wp2;go_ret;exact⟨bF (by simp[a,c]),rfl⟩
  .go_enter func247,ntmps247
   go_wp2;go_ret;exact⟨bF (by simp[a,c]),rfl⟩
 .go_enter func247,ntmps247
  go_wp2;go_ret;exact⟨bF ζ,rfl⟩
def uR(b:Bool)(w:World):Calls prog 243 #[b] w λe w'=>e=.returned (.int .i64 (if b then 1 else 0))/\w'=w:=by
 cases b
 all_goals
  go_enter func243,ntmps243
  go_wp2;go_ret;exact⟨rfl,rfl⟩
def told_none(w:World):Calls prog 246 #[(-1:Int)] w λe w'=>e=.returned (.tuple #[(0:Int),false])/\w'=w:=by
 go_enter func246,ntmps246
 go_wp2;go_ret2;exact⟨rfl,rfl⟩
def QR(x:Int)(w:World)(h:x≠-1):Calls prog 246 #[x] w λe w'=>e=.returned (.tuple #[x,true])/\w'=w:=by
 have a:(x == -1)=false:=by simpa using h
 go_enter func246,ntmps246
 go_wp2;go_ret2;exact⟨rfl,rfl⟩
def iA(n:Nat)(S:TS)(x:Int)(r:Bool):Int:=if 0<=x/\x<n then S.kid r x.toNat else -1
def qV(n:Nat)(S:TS)(x:Int):Int:=if 0<=x/\x<n then S.u x.toNat else -1
def AX(bt ba n:Nat)(S:TS)(x:Int)(r:Bool)(w:World)(h:bL w bt ba n S):
  Calls prog 244 #[bt,x,r] w λe w'=>e=.returned (iA n S x r:Int)/\∃k,w'=w.drewN k:=by
 by_cases a:0<=x/\x<n
 .obtain⟨k,rfl⟩:∃k:Nat,x=k:=⟨x.toNat,ω⟩;have b:k<n:=ω;have e:iA n S k r=S.kid r k:=by unfold iA;rw[Δ a];simp
  have c:=h.head.cell 0 ω;have d:=h.row.cellAt (k*3) ω (rW S k);have f:=h.row.cellAt (k*3+1) ω (rT S k);rw[e];clear e;cases r
  all_goals
   unfold TS.kid;simp only[if_true,if_false,Ϟ]
   go_enter func244,ntmps244
   go_wp2_with (go_at_call 247;refine(sI bt ba n S k _ h true (by simp[b])).mono ?_;rintro e w' ⟨rfl,rfl⟩)
   go_quiet ((go_at_call 243;exact Calls.quiet_of_same (uR _ _)))
   go_wp2;go_ret;exact⟨rfl,_,rfl⟩
 .have e:iA n S x r=-1:=by unfold iA;rw[Γ a]
  rw[e];clear e
  go_enter func244,ntmps244
  go_wp2_with (go_at_call 247;refine(sI bt ba n S x _ h false (by simp[a])).mono ?_;rintro e w' ⟨rfl,rfl⟩)
  go_ret;exact⟨rfl,0,rfl⟩
def wz(bt ba n:Nat)(S:TS)(x:Int)(w:World)(h:bL w bt ba n S):
  Calls prog 242 #[bt,x] w λe w'=>e=.returned (qV n S x:Int)/\w'=w:=by
 by_cases a:0<=x/\x<n
 .obtain⟨k,rfl⟩:∃k:Nat,x=k:=⟨x.toNat,ω⟩;have b:k<n:=ω;have e:qV n S k=S.u k:=by unfold qV;rw[Δ a];simp
  have c:=h.head.cell 0 ω;have d:=h.row.cellAt (k*3+2) ω (vU S k);rw[e];clear e
  go_enter func242,ntmps242
  go_wp2_with (go_at_call 247;refine(sI bt ba n S k _ h true (by simp[b])).mono ?_;rintro e w' ⟨rfl,rfl⟩)
  go_ret;exact⟨rfl,rfl⟩
 .have e:qV n S x=-1:=by unfold qV;rw[Γ a]
  rw[e];clear e
  go_enter func242,ntmps242
  go_wp2_with (go_at_call 247;refine(sI bt ba n S x _ h false (by simp[a])).mono ?_;rintro e w' ⟨rfl,rfl⟩)
  go_ret;exact⟨rfl,rfl⟩
def tv(x:Int):Int:=if x=-1 then 0 else x
def tb(x:Int):Bool:=decide (x≠-1)
def C9(x:Int)(w:World):Calls prog 246 #[x] w λe w'=>e=.returned (.tuple #[(tv x:Int),.bool (tb x)])/\w'=w:=by
 by_cases h:x=-1
 .subst h;exact told_none w
 .have a:tv x=x:=by unfold tv;rw[Γ h]
  have b:tb x=true:=by unfold tb;simp[h]
  rw[a,b];exact QR x w h
def Cu(bt ba n:Nat)(S:TS)(x:Int)(w:World)(h:bL w bt ba n S):
  Calls prog 238 #[bt,x] w λe w'=>e=.returned (.tuple #[(tv (iA n S x false):Int),.bool (tb (iA n S x false))])/\∃k,w'=w.drewN k:=by
 generalize c:iA n S x false=y;have a:=AX bt ba n S x false w h;rw[c] at a;have b:=λW=>C9 y W
 go_enter func238,ntmps238
 go_wp2_with (first|(go_at_call 244;refine a.mono ?_;rintro e w' ⟨rfl,k,rfl⟩)|(go_at_call 246;refine(b _).mono ?_;rintro e w' ⟨rfl,rfl⟩))
 go_ret2;exact⟨rfl,_,rfl⟩
def q9(bt ba n:Nat)(S:TS)(x:Int)(w:World)(h:bL w bt ba n S):
  Calls prog 239 #[bt,x] w λe w'=>e=.returned (.tuple #[(tv (iA n S x true):Int),.bool (tb (iA n S x true))])/\∃k,w'=w.drewN k:=by
 generalize c:iA n S x true=y;have a:=AX bt ba n S x true w h;rw[c] at a;have b:=λW=>C9 y W
 go_enter func239,ntmps239
 go_wp2_with (first|(go_at_call 244;refine a.mono ?_;rintro e w' ⟨rfl,k,rfl⟩)|(go_at_call 246;refine(b _).mono ?_;rintro e w' ⟨rfl,rfl⟩))
 go_ret2;exact⟨rfl,_,rfl⟩
def Xc(bt ba n:Nat)(S:TS)(x:Int)(w:World)(h:bL w bt ba n S):
  Calls prog 240 #[bt,x] w λe w'=>e=.returned (.tuple #[(tv (qV n S x):Int),.bool (tb (qV n S x))])/\∃k,w'=w.drewN k:=by
 generalize c:qV n S x=y;have a:=wz bt ba n S x w h;rw[c] at a;have b:=λW=>C9 y W
 go_enter func240,ntmps240
 go_wp2_with (first|(go_at_call 242;refine a.mono ?_;rintro e w' ⟨rfl,rfl⟩)|(go_at_call 246;refine(b _).mono ?_;rintro e w' ⟨rfl,rfl⟩))
 go_ret2;exact⟨rfl,0,rfl⟩
def TS.aM(S:TS)(p:Nat)(s:Bool)(v:Int):TS:=if s then⟨S.l,λi=>if i=p then v else S.r i,S.u⟩ else⟨λi=>if i=p then v else S.l i,S.r,S.u⟩
def TS.dE(S:TS)(p:Nat)(v:Int):TS:=⟨S.l,S.r,λi=>if i=p then v else S.u i⟩
def bL.aM{w:World}{bt ba n:Nat}{S:TS}(h:bL w bt ba n S)(p:Nat)(s:Bool)(v:Int):
  bL (w.setCell ⟨ba,p*3+(if s then 1 else 0),none⟩ (.int .i64 v)) bt ba n (S.aM p s v):=by
 refine⟨h.head.far _ _ h.ne,(h.row.set _ _).ext (λj a=>?_),h.ne,h.le⟩;cases s
 .unfold dZ TS.aM
  grind
 .unfold dZ TS.aM
  grind
def bL.dE{w:World}{bt ba n:Nat}{S:TS}(h:bL w bt ba n S)(p:Nat)(v:Int):
  bL (w.setCell ⟨ba,p*3+2,none⟩ (.int .i64 v)) bt ba n (S.dE p v):=by
 refine⟨h.head.far _ _ h.ne,(h.row.set _ _).ext (λj a=>?_),h.ne,h.le⟩;unfold dZ TS.dE
 grind
def lX(S:TS)(p x:Int)(r:Bool):TS:=(S.aM p.toNat r x).dE x.toNat p
def BF(bt ba n:Nat)(S:TS)(i j:Nat)(r:Bool)(w:World)(h:bL w bt ba n S)(o:i<n)(p:j<n)(q:i≠j)(k:S.u j=-1)(l:S.kid r i=-1):
  Calls prog 241 #[bt,(i:Int),(j:Int),r] w λe w'=>e=.returned true/\bL w' bt ba n (lX S i j r)/\ae [ba] w w':=by
 have d:=h.ne;have a:ba≠bt:=λe=>h.ne e.symm;have s:=h.head.cell 0 ω;have t:=h.row.cellAt (i*3) ω (rW S i);have u:=h.row.cellAt (i*3+1) ω (rT S i);have v:=h.row.cellAt (j*3+2) ω (vU S j);have x:=h.row.free (i*3);have y:=h.row.free (i*3+1);have z:=h.row.free (j*3+2);have f:=sI bt ba n S i w h true (by simp[o]);have g:=sI bt ba n S j w h true (by simp[p]);have b:=wz bt ba n S j w h;rw[show qV n S j=-1 by unfold qV;rw[Δ ω];simpa using k] at b;have c:=AX bt ba n S i r w h;rw[show iA n S i r=-1 by unfold iA;rw[Δ ω];simpa using l] at c
 have m:((i:Int) == (j:Int))=false:=ζ;have H:=χ h;clear h k l;cases r
 .go_enter func241,ntmps241
  go_wp2_with (first
   |((with_reducible refine f.mono ?_);rintro e w' ⟨rfl,rfl⟩)
   |((with_reducible refine g.mono ?_);rintro e w' ⟨rfl,rfl⟩)
   |((with_reducible refine b.mono ?_);rintro e w' ⟨rfl,rfl⟩)
   | ((with_reducible refine c.mono ?_);rintro e w' ⟨rfl,kd,rfl⟩))
  go_region_held3 (λW=>W.cell? bt=some (.slice (some ba) n n)) (go_keep) ((go_at_call 243;refine(uR _ _).mono ?_;rintro e w' ⟨rfl,rfl⟩))
  go_wp2;go_ret;exact⟨rfl,((H.out.drewN _).aM i false j).dE j i,(((ae.refl _ _).drewN _).setCell (Α σ) _).setCell (Α σ) _⟩
 .go_enter func241,ntmps241
  go_wp2_with (first
   |((with_reducible refine f.mono ?_);rintro e w' ⟨rfl,rfl⟩)
   |((with_reducible refine g.mono ?_);rintro e w' ⟨rfl,rfl⟩)
   |((with_reducible refine b.mono ?_);rintro e w' ⟨rfl,rfl⟩)
   | ((with_reducible refine c.mono ?_);rintro e w' ⟨rfl,kd,rfl⟩))
  go_region_held3 (λW=>W.cell? bt=some (.slice (some ba) n n)) (go_keep) ((go_at_call 243;refine(uR _ _).mono ?_;rintro e w' ⟨rfl,rfl⟩))
  go_wp2;go_ret;exact⟨rfl,((H.out.drewN _).aM i true j).dE j i,(((ae.refl _ _).drewN _).setCell (Α σ) _).setCell (Α σ) _⟩
def Hg(bt ba n:Nat)(S:TS)(x:Int)(w:World)(h:bL w bt ba n S)(b:qV n S x=-1):
  Calls prog 234 #[bt,x] w λe w'=>e=.returned (.tuple #[(0:Int),false])/\w'=w:=by
 have a:=wz bt ba n S x w h;rw[b] at a;clear h b
 go_enter func234,ntmps234
 go_wp2_with (((with_reducible refine a.mono ?_);rintro e w' ⟨rfl,rfl⟩))
 go_ret2;exact⟨rfl,rfl⟩
def nY(S:TS)(i j:Nat):TS:=(S.aM i (decide (S.r i=j)) (-1)).dE j (-1)
def G8(bt ba n:Nat)(S:TS)(i j:Nat)(w:World)(h:bL w bt ba n S)(x:i<n)(y:j<n)(g:S.u j=i):
  Calls prog 234 #[bt,(j:Int)] w λe w'=>e=.returned (.tuple #[(i:Int),true])/\bL w' bt ba n (nY S i j)/\ae [ba] w w':=by
 have k:ba≠bt:=λe=>h.ne e.symm;have p:=h.head.cell 0 ω;have q:=h.row.cellAt (i*3) ω (rW S i);have r:=h.row.cellAt (i*3+1) ω (rT S i);have s:=h.row.cellAt (j*3+2) ω (vU S j);have t:=h.row.free (i*3);have u:=h.row.free (i*3+1);have v:=h.row.free (j*3+2);have c:=wz bt ba n S j w h;rw[show qV n S j=i by unfold qV;rw[Δ ω];simpa using g] at c;have d:=λW (o:bL W bt ba n S)=>AX bt ba n S i true W o;rw[show iA n S i true=S.r i by unfold iA TS.kid;rw[Δ ω];simp] at d;have H:=χ h;have l:((i:Int) == -1)=false:=σ;clear h
 by_cases a:S.r i=j
 .have m:(S.r i == (j:Int))=true:=by simpa using a
  have b:nY S i j=(S.aM i true (-1)).dE j (-1):=by unfold nY;rw[Ν a]
  have f:=χ b;clear a b g
  go_enter func234,ntmps234
  go_wp2_with (((with_reducible refine c.mono ?_);rintro e w' ⟨rfl,rfl⟩))
  go_region_held3 (λW=>W.cell? bt=some (.slice (some ba) n n)) (go_keep)
   (first|((go_at_call 243;refine(uR _ _).mono ?_;rintro e w' ⟨rfl,rfl⟩))|((go_at_call 244;refine(d _ (H.out.drew)).mono ?_;rintro e w' ⟨rfl,kd,rfl⟩)))
  go_wp2;go_ret2;exact⟨rfl,by rw[f.out];exact((H.out.drewN _).aM i true (-1)).dE j (-1),(((ae.refl _ _).drewN _).setCell (Α σ) _).setCell (Α σ) _⟩
 .have m:(S.r i == (j:Int))=false:=by simpa using a
  have b:nY S i j=(S.aM i false (-1)).dE j (-1):=by unfold nY;rw[Ξ a]
  have f:=χ b;clear a b g
  go_enter func234,ntmps234
  go_wp2_with (((with_reducible refine c.mono ?_);rintro e w' ⟨rfl,rfl⟩))
  go_region_held3 (λW=>W.cell? bt=some (.slice (some ba) n n)) (go_keep)
   (first|((go_at_call 243;refine(uR _ _).mono ?_;rintro e w' ⟨rfl,rfl⟩))|((go_at_call 244;refine(d _ (H.out.drew)).mono ?_;rintro e w' ⟨rfl,kd,rfl⟩)))
  go_wp2;go_ret2;exact⟨rfl,by rw[f.out];exact((H.out.drewN _).aM i false (-1)).dE j (-1),(((ae.refl _ _).drewN _).setCell (Α σ) _).setCell (Α σ) _⟩
def jS(S:TS)(i:Nat):TS:=(S.aM i false (S.r i)).aM i true (S.l i)
def CP(bt ba n:Nat)(S:TS)(i:Nat)(w:World)(h:bL w bt ba n S)(b:i<n):
  Calls prog 249 #[bt,(i:Int)] w λe w'=>e=.returned true/\bL w' bt ba n (jS S i)/\ae [ba] w w':=by
 have c:=h.head.cell 0 ω;have d:=h.row.cellAt (i*3) ω (rW S i);have f:=h.row.cellAt (i*3+1) ω (rT S i);have g:=h.row.free (i*3);have j:=h.row.free (i*3+1);have a:=sI bt ba n S i w h true (by simp[b]);have H:=χ h;clear h
 go_enter func249,ntmps249
 go_wp2_with (((with_reducible refine a.mono ?_);rintro e w' ⟨rfl,rfl⟩))
 go_region
 go_wp2;go_ret;exact⟨rfl,((H.out.aM i false (S.r i)).aM i true (S.l i)).drew,(((ae.refl _ _).setCell (Α σ) _).setCell (Α σ) _).drew⟩
end Go.Proofs.YtnpdakpagnpanaaGreat
namespace Go.Proofs.YtnpdakpagnpanaaGreat
open Tryz
inductive BT where
 |nil:BT
 |node:Nat->BT->BT->BT
def BT.root:BT->Int | .nil=>-1 | .node x _ _=>x
def BT.nodes:BT->List Nat | .nil=>[] | .node x l r=>x::(l.nodes++r.nodes)
def BT.size:BT->Nat | .nil=>0 | .node _ l r=>l.size+r.size+1
def BT.mY:∀t:BT,t.nodes.length=t.size
 | .nil=>rfl
 | .node x l r=>by simp[BT.nodes,BT.size,BT.mY l,BT.mY r]
def dL(S:TS):Int->Int->BT->Prop
 |_,z,.nil=>z=-1
 |p,z,.node x l r=>z=x/\S.u x=p/\dL S x (S.l x) l/\dL S x (S.r x) r
def dL.root{S:TS}:∀{t:BT} {p z:Int},dL S p z t->z=t.root
 | .nil,_,_,h=>h
 | .node _ _ _,_,_,h=>h.1
def TS.at(S S':TS)(x:Nat):Prop:=S'.l x=S.l x/\S'.r x=S.r x/\S'.u x=S.u x
def dL.frame{S S':TS}:∀{t:BT} {p z:Int},dL S p z t->(∀x,x∈t.nodes->S.at S' x)->dL S' p z t
 | .nil,_,_,h,_=>h
 | .node x l r,p,z,h,hs=>by
  have hx:=hs x (by simp[BT.nodes]);refine⟨h.1,by rw[hx.2.2];exact h.2.1,?_,?_⟩
  .rw[hx.1];exact dL.frame h.2.2.1 (λy hy=>hs y (by simp[BT.nodes,hy]))
  .rw[hx.2.1];exact dL.frame h.2.2.2 (λy hy=>hs y (by simp[BT.nodes,hy]))
def dL.Rv{S c:TS}{t:BT}{p p' z:Int}(h:dL S p z t)(d:t.nodes.Nodup)(hs:∀x,x∈t.nodes->c.l x=S.l x/\c.r x=S.r x/\(x≠t.root.toNat->c.u x=S.u x))(g:t≠.nil->c.u t.root.toNat=p'):dL c p' z t:=by
 cases t with
 |nil=>exact h
 |node x l r=>
  have f:=hs x (by simp[BT.nodes]);simp only[BT.nodes,Ζ,τ,not_or] at d;refine⟨h.1,?_,?_,?_⟩
  .have:=g σ;simpa[BT.root] using this
  .rw[f.1];refine h.2.2.1.frame (λy b=>?_);have a:=hs y (by simp[BT.nodes,b]);exact⟨a.1,a.2.1,a.2.2 (λe=>by simp[BT.root] at e;rw[e] at b;exact d.1.1 b)⟩
  .rw[f.2.1];refine h.2.2.2.frame (λy b=>?_);have a:=hs y (by simp[BT.nodes,b]);exact⟨a.1,a.2.1,a.2.2 (λe=>by simp[BT.root] at e;rw[e] at b;exact d.1.2 b)⟩
def cB{t:BT}(h:t≠.nil):t.root.toNat∈t.nodes/\t.root=(t.root.toNat:Int):=by
 cases t with
 |nil=>exact absurd rfl h
 |node x l r=>simp[BT.root,BT.nodes]
/-! ### ranks; what a merge gives -/
def BT.rank:BT->Nat | .nil=>0 | .node _ _ r=>r.rank+1
def aB(x:Nat)(l r:BT):BT:=if l.rank<r.rank then .node x r l else .node x l r
def gz(rk:Nat->Nat):BT->Prop
 | .nil=>True
 | .node x l r=>rk x=r.rank+1/\gz rk l/\gz rk r
def gz.frame{rk nN:Nat->Nat}:∀{t:BT},gz rk t->(∀x,x∈t.nodes->nN x=rk x)->gz nN t
 | .nil,_,_=>trivial
 | .node x l r,h,hs=>⟨by rw[hs x (by simp[BT.nodes])];exact h.1,h.2.1.frame (λy hy=>hs y (by simp[BT.nodes,hy])),h.2.2.frame (λy hy=>hs y (by simp[BT.nodes,hy]))⟩
def gz.root{rk:Nat->Nat}{t:BT}(h:gz rk t)(a:t≠.nil):rk t.root.toNat=t.rank:=by
 cases t with
 |nil=>exact absurd rfl a
 |node x l r=>simpa[BT.root,BT.rank] using h.1
def Lean:BT->Prop
 | .nil=>True
 | .node _ l r=>r.rank<=l.rank/\Lean l/\Lean r
def lM{x:Nat}{l r:BT}(a:Lean l)(b:Lean r):Lean (aB x l r):=by
 unfold aB;split
 .exact⟨ω,b,a⟩
 .exact⟨ω,a,b⟩
def Heap(A:NS):BT->Prop
 | .nil=>True
 | .node x l r=>(∀y,y∈l.nodes->dA A x y)/\(∀y,y∈r.nodes->dA A x y)/\Heap A l/\Heap A r
def lU(x:Nat)(l r:BT):(aB x l r).nodes.Perm (x::(l.nodes++r.nodes)):=by
 unfold aB;split
 .simp only[BT.nodes];exact List.Perm.cons x Φ
 .exact ό _
def vL{A:NS}{x:Nat}{l r:BT}(a:∀y,y∈l.nodes->dA A x y)(b:∀y,y∈r.nodes->dA A x y)(c:Heap A l)(d:Heap A r):Heap A (aB x l r):=by
 unfold aB;split
 .exact⟨b,a,d,c⟩
 .exact⟨a,b,c,d⟩
def jM(x:Nat)(l r:BT):(aB x l r).root=x:=by unfold aB;split<;>rfl
def aI(up:Nat->BT->BT->BT)(A:NS):BT->BT->BT×Nat
 | .nil,t=>(t,0)
 | .node x l r,.nil=>(.node x l r,0)
 | .node x l r,.node y l' r'=>
  if dA A y x then(up y l' (aI up A r' (.node x l r)).1,(aI up A r' (.node x l r)).2+1)
  else(up x l (aI up A r (.node y l' r')).1,(aI up A r (.node y l' r')).2+1)
termination_by a b=>a.size+b.size
decreasing_by
 all_goals simp only[BT.size]
 all_goals omega
def mP(up:Nat->BT->BT->BT)(A:NS)(t:BT):aI up A .nil t=(t,0):=by rw[aI]
def qB(up:Nat->BT->BT->BT)(A:NS)(t:BT):aI up A t .nil=(t,0):=by cases t<;>rw[aI]
def qL(up:Nat->BT->BT->BT)(A:NS)(x y:Nat)(l r b a:BT):aI up A (.node x l r) (.node y b a)=
  if dA A y x then(up y b (aI up A a (.node x l r)).1,(aI up A a (.node x l r)).2+1)
  else(up x l (aI up A r (.node y b a)).1,(aI up A r (.node y b a)).2+1):=by rw[aI]
structure Vf(up:Nat->BT->BT->BT):Prop where
 nodes:∀x l r,(up x l r).nodes.Perm (x::(l.nodes++r.nodes))
 heap:∀A x l r,(∀y,y∈l.nodes->dA A x y)->(∀y,y∈r.nodes->dA A x y)->Heap A l->Heap A r->Heap A (up x l r)
 root:∀x l r,(up x l r).root=x
def mQ:Vf aB:=⟨lU,λ_ _ _ _=>vL,jM⟩
def kK{up:Nat->BT->BT->BT}(U:Vf up)(A:NS)(k:Nat):∀(a b:BT),a.size+b.size<=k->
  (aI up A a b).1.nodes.Perm (a.nodes++b.nodes)/\(Heap A a->Heap A b->(a.nodes++b.nodes).Nodup->Heap A (aI up A a b).1):=by
 induction k with
 |zero=>
  intro a b o;cases a with
  |nil=>rw[mP];exact⟨by simp[BT.nodes],λ_ h _=>h⟩
  |node x l r=>simp only[BT.size] at o;omega
 |succ k v=>
  intro a b o;cases a with
  |nil=>rw[mP];exact⟨by simp[BT.nodes],λ_ h _=>h⟩
  |node x l r=>
   cases b with
   |nil=>rw[qB];exact⟨by simp[BT.nodes],λh _ _=>h⟩
   |node y e d=>
    rw[qL];simp only[BT.size] at o
    by_cases h:dA A y x
    .rw[Δ h];obtain⟨m,p⟩:=v d (.node x l r) (by simp only[BT.size];omega);have q:=U.nodes y e (aI up A d (.node x l r)).1;have s:(y::(e.nodes++(aI up A d (.node x l r)).1.nodes)).Perm ((BT.node x l r).nodes++(BT.node y e d).nodes):=by
      refine ϝ (List.Perm.cons y (List.Perm.append_left _ m)) ?_;rw[←ϋ]
      show(y::(e.nodes++d.nodes++(BT.node x l r).nodes)).Perm ((BT.node x l r).nodes++(y::(e.nodes++d.nodes)))
      grind
     refine⟨q.trans s,λf g n=>?_⟩;have i:(d.nodes++(BT.node x l r).nodes).Nodup:=by
      grind
     refine U.heap A y e _ g.1 (λz c=>?_) g.2.2.1 (p g.2.2.2 f i);rcases τ.1 (m.mem_iff.1 c) with c|c
     .exact g.2.1 z c
     .simp only[BT.nodes,ρ,τ] at c;rcases c with rfl|c|c
      .exact h
      .exact dH h (f.1 z c)
      .exact dH h (f.2.1 z c)
    .rw[Γ h];obtain⟨m,p⟩:=v r (.node y e d) (by simp only[BT.size];omega);have q:=U.nodes x l (aI up A r (.node y e d)).1;have s:(x::(l.nodes++(aI up A r (.node y e d)).1.nodes)).Perm ((BT.node x l r).nodes++(BT.node y e d).nodes):=by
      refine ϝ (List.Perm.cons x (List.Perm.append_left _ m)) ?_;rw[←ϋ];exact ό _
     refine⟨q.trans s,λf g n=>?_⟩;have w:=n;rw[θ] at n;have t:x≠y:=n.2.2 x (by simp[BT.nodes]) y (by simp[BT.nodes]);have j:dA A x y:=by
      rcases jA (A:=A) t with u|u
      .exact u
      .exact absurd u h
     have i:(r.nodes++(BT.node y e d).nodes).Nodup:=by
      grind
     refine U.heap A x l _ f.1 (λz c=>?_) f.2.2.1 (p f.2.2.2 g i);rcases τ.1 (m.mem_iff.1 c) with c|c
     .exact f.2.1 z c
     .simp only[BT.nodes,ρ,τ] at c;rcases c with rfl|c|c
      .exact j
      .exact dH j (g.1 z c)
      .exact dH j (g.2.1 z c)
def sH(A:NS)(k:Nat):∀(a b:BT),a.size+b.size<=k->Lean a->Lean b->Lean (aI aB A a b).1:=by
 induction k with
 |zero=>
  intro a b e d c;cases a with
  |nil=>rw[mP];exact c
  |node x l r=>simp only[BT.size] at e;omega
 |succ k f=>
  intro a b e d c;cases a with
  |nil=>rw[mP];exact c
  |node x l r=>
   cases b with
   |nil=>rw[qB];exact d
   |node y h g=>
    rw[qL];simp only[BT.size] at e
    split
    .exact lM c.2.1 (f g (.node x l r) (by simp only[BT.size];omega) c.2.2 d)
    .exact lM d.2.1 (f r (.node y h g) (by simp only[BT.size];omega) d.2.2 c)
def wU(up:Nat->BT->BT->BT):List (Nat×BT)->BT->BT
 | [],m=>m
 |(x,l)::t,m=>up x l (wU up t m)
def BO(up:Nat->BT->BT->BT)(W:List (Nat×BT))(x:Nat)(l m:BT):wU up (W++[(x,l)]) m=wU up W (up x l m):=by
 induction W with
 |nil=>rfl
 |cons p t a=>obtain⟨y,k⟩:=p;simp only[List.cons_append,wU,a]
def wO(W:List (Nat×BT)):List Nat:=W.flatMap λp=>p.1::p.2.nodes
abbrev Fr:=Nat×Bool×BT
def bN(f:Fr)(t:BT):BT:=if f.2.1 then .node f.1 f.2.2 t else .node f.1 t f.2.2
def ak:List Fr->BT->BT
 | [],t=>t
 |f::P,t=>ak P (bN f t)
def Eu:List Fr->Int|[]=>-1|f::_=>f.1
def ed:List Fr->List Nat|[]=>[]|f::P=>f.1::(f.2.2.nodes++ed P)
def Xp(S:TS):List Fr->Int->Prop
 | [],_=>True
 |f::P,z=>S.kid f.2.1 f.1=z/\dL S f.1 (S.kid (!f.2.1) f.1) f.2.2/\S.u f.1=Eu P/\Xp S P f.1
def pg(f:Fr)(t:BT):(bN f t).root=f.1:=by unfold bN;split<;>rfl
def VP(f:Fr)(t:BT):bN f t≠.nil:=by unfold bN;split<;>simp
def jP(f:Fr)(t:BT):(bN f t).nodes.Perm (f.1::(t.nodes++f.2.2.nodes)):=by
 unfold bN;split
 .simp only[BT.nodes];exact List.Perm.cons _ Φ
 .exact ό _
def aV:∀(P:List Fr) (t:BT),(ak P t).nodes.Perm (t.nodes++ed P)
 | [],t=>by simp[ak,ed]
 |f::P,t=>by
  refine(aV P (bN f t)).trans ?_;refine((jP f t).append_right (ed P)).trans ?_;simp only[ed,List.cons_append,ϋ];exact(List.perm_middle (a:=f.1) (l₁:=t.nodes) (l₂:=f.2.2.nodes++ed P)).symm
def BS:∀(P:List Fr) (t t':BT),t.root=t'.root->(ak P t).root=(ak P t').root
 | [],t,t',h=>h
 |f::P,t,t',h=>BS P _ _ (by rw[pg,pg])
def kZ(f:Fr)(P:List Fr)(t t':BT):(ak (f::P) t).root=(ak (f::P) t').root:=BS P _ _ (by rw[pg,pg])
def uP:∀(P Q:List Fr) (t:BT),ak (P++Q) t=ak Q (ak P t)
 | [],_,_=>rfl
 |f::P,Q,t=>uP P Q (bN f t)
def zH:∀{t:BT} {x:Nat},x∈t.nodes->∃P l r,t=ak P (.node x l r)
 | .nil,_,h=>by cases h
 | .node y a b,x,h=>by
  simp only[BT.nodes,ρ,τ] at h;rcases h with rfl|h|h
  .exact⟨[],a,b,rfl⟩
  .obtain⟨P,l,r,e⟩:=zH h;exact⟨P++[(y,false,b)],l,r,by rw[uP,←e];rfl⟩
  .obtain⟨P,l,r,e⟩:=zH h;exact⟨P++[(y,true,a)],l,r,by rw[uP,←e];rfl⟩
def Sy{S:TS}{p:Int}(f:Fr)(t:BT):dL S p f.1 (bN f t)↔dL S f.1 t.root t/\S.kid f.2.1 f.1=t.root/\dL S f.1 (S.kid (!f.2.1) f.1) f.2.2/\S.u f.1=p:=by
 obtain⟨x,s,o⟩:=f;cases s
 .simp only[bN,Ϟ,if_false,dL,TS.kid,Bool.not_false,if_true];constructor
  .rintro⟨_,c,a,b⟩;have e:=a.root
   grind
  .grind
 .simp only[bN,if_true,dL,TS.kid,Bool.not_true,Ϟ,if_false];constructor
  .rintro⟨_,c,a,b⟩;have e:=b.root
   grind
  .grind
def fe{S:TS}:∀(P:List Fr) (t:BT),dL S (-1) (ak P t).root (ak P t)↔dL S (Eu P) t.root t/\Xp S P t.root
 | [],t=>by simp[ak,Eu,Xp]
 |f::P,t=>by
  have h:=fe (S:=S) P (bN f t);rw[pg] at h
  show dL S (-1) (ak P (bN f t)).root (ak P (bN f t))↔_
  rw[h,Sy];simp only[Eu,Xp];constructor
  .rintro⟨⟨h1,h2,h3,h4⟩,h5⟩;exact⟨h1,h2,h3,h4,h5⟩
  .rintro⟨h1,h2,h3,h4,h5⟩;exact⟨⟨h1,h2,h3,h4⟩,h5⟩
def Xp.frame{S S':TS}:∀{P:List Fr} {z:Int},Xp S P z->(∀y,y∈ed P->S.at S' y)->Xp S' P z
 | [],_,_,_=>trivial
 |f::P,z,h,hs=>by
  obtain⟨h1,h2,h3,h4⟩:=h;have hf:=hs f.1 (by simp[ed]);have hk:∀s,S'.kid s f.1=S.kid s f.1:=λs=>by unfold TS.kid;rw[hf.1,hf.2.1]
  exact⟨by grind,by rw[hk];exact h2.frame (λy hy=>hs y (by simp[ed,hy])),by rw[hf.2.2];exact h3,h4.frame (λy hy=>hs y (by simp[ed,hy]))⟩
def Xp.other{S a:TS}{f:Fr}{P:List Fr}{z d:Int}(h:Xp S (f::P) z)(c:(ed (f::P)).Nodup)(i:a.kid f.2.1 f.1=d)(j:a.kid (!f.2.1) f.1=S.kid (!f.2.1) f.1)(l:a.u f.1=S.u f.1)
  (hs:∀y,y≠f.1->y∈ed (f::P)->S.at a y):Xp a (f::P) d:=by
 obtain⟨_,g2,k,g⟩:=h;simp only[ed,Ζ,τ,not_or] at c;exact⟨i,by rw[j];exact g2.frame (λy b=>hs y (λe=>c.1.1 (by grind)) (by simp[ed,b])),by grind,g.frame (λy b=>hs y (λe=>c.1.2 (by grind)) (by simp[ed,b]))⟩
def XR{S:TS}{i j:Nat}{y:Nat}(a:y≠i)(b:y≠j):S.at (nY S i j) y:=by
 unfold nY TS.aM TS.dE TS.at;refine⟨?_,?_,?_⟩
 .grind
 .grind
 .grind
def EL{S:TS}{i:Nat}{s:Bool}{v:Int}:∀y,(S.aM i s v).u y=S.u y:=λy=>by unfold TS.aM;cases s<;>rfl
def VB{S:TS}{f:Fr}{P:List Fr}{t:BT}(h:dL S (-1) (ak (f::P) t).root (ak (f::P) t))(C:t≠.nil)(D:(ak (f::P) t).nodes.Nodup):
  dL (nY S f.1 t.root.toNat) (-1) t.root t/\dL (nY S f.1 t.root.toNat) (-1) (ak (f::P) .nil).root (ak (f::P) .nil)/\∀y,y≠f.1->y≠t.root.toNat->S.at (nY S f.1 t.root.toNat) y:=by
 obtain⟨j,b⟩:=(fe _ _).1 h;have c:=(aV (f::P) t).nodup_iff.1 D;rw[θ] at c;obtain⟨r,u,i⟩:=c;obtain⟨k,v⟩:=cB C;generalize F:t.root.toNat=x at *;have l:f.1≠x:=λe=>i x k f.1 (by simp[ed]) e.symm;have d:∀y,y≠f.1->y≠x->S.at (nY S f.1 x) y:=λy j b=>XR j b;have o:S.kid f.2.1 f.1=x:=by rw[b.1,v]
 have a:decide (S.r f.1=(x:Int))=f.2.1:=by
  cases hs:f.2.1 with
  |true=>rw[hs] at o;exact Ν (by simpa[TS.kid] using o)
  |false=>
   refine Ξ (λe=>?_);have p:=b.2.1;rw[hs] at p;have w:=p.root;have m:f.2.2.root=(x:Int):=by rw[←w];simpa[TS.kid] using e
   have z:f.2.2≠.nil:=λe=>by rw[e] at m;simp[BT.root] at m
   have q:=(cB z).1;rw[m,π] at q;exact i x k x (by simp[ed,q]) rfl
 have n:∀s,(nY S f.1 x).kid s f.1=if s=f.2.1 then -1 else S.kid s f.1:=λs=>by
  unfold nY;rw[a];unfold TS.aM TS.dE TS.kid
  grind
 have A:∀y,(nY S f.1 x).u y=if y=x then -1 else S.u y:=λy=>by
  unfold nY TS.dE;simp only[EL]
 refine⟨j.Rv r (λy B=>?_) (λ_=>?_),(fe _ _).2 ⟨rfl,b.other u ?_ ?_ ?_ (λy g1 g2=>d y g1 (λe=>i x k y g2 e.symm))⟩,d⟩
 .have g:y≠f.1:=λe=>i y B f.1 (by simp[ed]) e;refine⟨?_,?_,λE=>?_⟩
  .unfold nY TS.aM TS.dE;cases decide (S.r f.1=(x:Int))<;>simp[g]
  .unfold nY TS.aM TS.dE;cases decide (S.r f.1=(x:Int))<;>simp[g]
  .grind
 .grind
 .rw[n,Δ rfl];rfl
 .grind
 .rw[A,Γ l]
def RO{S:TS}{f:Fr}{P:List Fr}{m:BT}(h:dL S (-1) (ak (f::P) .nil).root (ak (f::P) .nil))(r:dL S (-1) m.root m)(t:m≠.nil)(n:(m.nodes++ed (f::P)).Nodup):
  dL (lX S f.1 m.root f.2.1) (-1) (ak (f::P) m).root (ak (f::P) m)/\∀y,y≠f.1->y≠m.root.toNat->S.at (lX S f.1 m.root f.2.1) y:=by
 obtain⟨_,o⟩:=(fe _ _).1 h;rw[θ] at n;obtain⟨p,q,d⟩:=n;obtain⟨k,u⟩:=cB t;have g:f.1≠m.root.toNat:=λe=>d _ k f.1 (by simp[ed]) e.symm;have i:∀s,(lX S f.1 m.root f.2.1).kid s f.1=if s=f.2.1 then m.root else S.kid s f.1:=λs=>by
  unfold lX TS.aM TS.dE TS.kid
  grind
 have l:∀y,(lX S f.1 m.root f.2.1).u y=if y=m.root.toNat then(f.1:Int) else S.u y:=λy=>by
  unfold lX TS.dE;simp only[EL]
 have c:∀y,y≠f.1->(lX S f.1 m.root f.2.1).l y=S.l y/\(lX S f.1 m.root f.2.1).r y=S.r y:=λy j=>by
  unfold lX TS.aM TS.dE;cases f.2.1<;>simp[j]
 have a:∀y,y≠f.1->y≠m.root.toNat->S.at (lX S f.1 m.root f.2.1) y:=λy g1 g2=>⟨(c y g1).1,(c y g1).2,by grind⟩
 refine⟨(fe _ _).2 ⟨r.Rv p (λy j=>?_) (λ_=>by rw[l,Δ rfl];rfl),o.other q ?_ ?_ ?_ (λy g1 g2=>a y g1 (λe=>d _ k y g2 e.symm))⟩,a⟩
 .have b:y≠f.1:=λe=>d y j f.1 (by simp[ed]) e;exact⟨(c y b).1,(c y b).2,λv=>by grind⟩
 .rw[i,Δ rfl]
 .grind
 .rw[l,Γ g]
/-! ### heaps, ranks -/
def xw{A:NS}{f:Fr}{t:BT}:Heap A (bN f t)↔(∀y,y∈t.nodes->dA A f.1 y)/\(∀y,y∈f.2.2.nodes->dA A f.1 y)/\Heap A t/\Heap A f.2.2:=by
 unfold bN
 split
 .simp only[Heap];constructor
  .grind
  .grind
 .simp only[Heap]
def vw{A:NS}:∀{P:List Fr} {t:BT},Heap A (ak P t)->Heap A t
 | [],_,h=>h
 |f::P,t,h=>(xw.1 (vw (P:=P) h)).2.2.1
def vW{A:NS}:∀{P:List Fr} {t t':BT},Heap A (ak P t)->Heap A t'->(∀y,y∈t'.nodes->y∈t.nodes)->Heap A (ak P t')
 | [],_,_,_,h,_=>h
 |f::P,t,t',h,h',hs=>by
  have h1:=xw.1 (vw (P:=P) h);refine vW (P:=P) h (xw.2 ⟨λy hy=>h1.1 y (hs y hy),h1.2.1,h',h1.2.2.2⟩) (λy hy=>?_);have hy':=(jP f t').mem_iff.1 hy;refine(jP f t).mem_iff.2 ?_;simp only[ρ,τ] at hy' ⊢;rcases hy' with h|h|h
  .exact Α h
  .exact Β (Α (hs y h))
  .exact Β (Β h)
def lZ(f:Fr)(n:Nat):Nat:=(if f.2.1 then n else f.2.2.rank)+1
def CR(f:Fr)(t:BT):(bN f t).rank=lZ f t.rank:=by unfold bN lZ;split<;>rfl
def Xm(rk:Nat->Nat):List Fr->Nat->Prop
 | [],_=>True
 |f::P,n=>gz rk f.2.2/\rk f.1=lZ f n/\Xm rk P (lZ f n)
def Xn{rk:Nat->Nat}{f:Fr}{t:BT}:gz rk (bN f t)↔gz rk t/\gz rk f.2.2/\rk f.1=lZ f t.rank:=by
 unfold bN lZ
 split
 .simp only[gz];constructor
  .grind
  .grind
 .simp only[gz];constructor
  .grind
  .grind
def AU{rk:Nat->Nat}:∀(P:List Fr) (t:BT),gz rk (ak P t)↔gz rk t/\Xm rk P t.rank
 | [],t=>by simp[ak,Xm]
 |f::P,t=>by
  show gz rk (ak P (bN f t))↔_
  rw[AU P,Xn,CR];simp only[Xm];constructor
  .rintro⟨⟨a,b,c⟩,d⟩;exact⟨a,b,c,d⟩
  .rintro⟨a,b,c,d⟩;exact⟨⟨a,b,c⟩,d⟩
def Xm.frame{rk nN:Nat->Nat}:∀{P:List Fr} {n:Nat},Xm rk P n->(∀y,y∈ed P->nN y=rk y)->Xm nN P n
 | [],_,_,_=>trivial
 |f::P,n,h,hs=>⟨h.1.frame (λy hy=>hs y (by simp[ed,hy])),by rw[hs f.1 (by simp[ed])];exact h.2.1,h.2.2.frame (λy hy=>hs y (by simp[ed,hy]))⟩
def EA:List Fr->Nat->Prop
 | [],_=>True
 |f::P,n=>Lean f.2.2/\(if f.2.1 then n<=f.2.2.rank else f.2.2.rank<=n)/\EA P (lZ f n)
def LF{f:Fr}{t:BT}:Lean (bN f t)↔Lean t/\Lean f.2.2/\(if f.2.1 then t.rank<=f.2.2.rank else f.2.2.rank<=t.rank):=by
 unfold bN
 split
 .simp only[Lean];constructor
  .grind
  .grind
 .simp only[Lean];constructor
  .grind
  .grind
def vV:∀(P:List Fr) (t:BT),Lean (ak P t)↔Lean t/\EA P t.rank
 | [],t=>by simp[ak,EA]
 |f::P,t=>by
  show Lean (ak P (bN f t))↔_
  rw[vV P,LF,CR];simp only[EA];constructor
  .rintro⟨⟨a,b,c⟩,d⟩;exact⟨a,b,c,d⟩
  .rintro⟨a,b,c,d⟩;exact⟨⟨a,b,c⟩,d⟩
def lL:List Fr->Nat->Nat->BT->BT->BT
 | [],_,x,l,r=>aB x l r
 |f::P,was,x,l,r=>
  if(aB x l r).rank=was then ak (f::P) (aB x l r)
  else if f.2.1 then lL P (lZ f was) f.1 f.2.2 (aB x l r) else lL P (lZ f was) f.1 (aB x l r) f.2.2
def sG:∀(P:List Fr) (was x:Nat) (l r:BT),(lL P was x l r).nodes.Perm (ak P (.node x l r)).nodes
 | [],was,x,l,r=>lU x l r
 |f::P,was,x,l,r=>by
  have h0:(bN f (aB x l r)).nodes.Perm (bN f (.node x l r)).nodes:=
   (jP f _).trans ((List.Perm.cons _ ((lU x l r).append_right _)).trans (jP f (.node x l r)).symm)
  have h1:(ak P (bN f (aB x l r))).nodes.Perm (ak P (bN f (.node x l r))).nodes:=
   (aV P _).trans ((h0.append_right _).trans (aV P _).symm)
  unfold lL
  split
  .exact h1
  .split
   .rename_i hs
    have e:bN f (aB x l r)=.node f.1 f.2.2 (aB x l r):=by unfold bN;rw[Δ hs]
    rw[e] at h1;exact(sG P _ _ _ _).trans h1
   .rename_i hs
    have e:bN f (aB x l r)=.node f.1 (aB x l r) f.2.2:=by unfold bN;rw[Γ hs]
    rw[e] at h1;exact(sG P _ _ _ _).trans h1
def wy:∀(P:List Fr) (was x:Nat) (l r:BT),(lL P was x l r).root=(ak P (.node x l r)).root
 | [],was,x,l,r=>jM x l r
 |f::P,was,x,l,r=>by
  have h1:=kZ f P (aB x l r) (.node x l r);unfold lL
  split
  .exact h1
  .split
   .rename_i hs
    have e:bN f (aB x l r)=.node f.1 f.2.2 (aB x l r):=by unfold bN;rw[Δ hs]
    unfold ak at h1;rw[e] at h1;exact(wy P _ _ _ _).trans h1
   .rename_i hs
    have e:bN f (aB x l r)=.node f.1 (aB x l r) f.2.2:=by unfold bN;rw[Γ hs]
    unfold ak at h1;rw[e] at h1;exact(wy P _ _ _ _).trans h1
def wN{A:NS}:∀(P:List Fr) (was x:Nat) (l r:BT),Heap A (ak P (.node x l r))->Heap A (lL P was x l r)
 | [],was,x,l,r,h=>vL h.1 h.2.1 h.2.2.1 h.2.2.2
 |f::P,was,x,l,r,h=>by
  have h0:=vw h;have h1:Heap A (ak (f::P) (aB x l r)):=vW h (vL h0.1 h0.2.1 h0.2.2.1 h0.2.2.2) (λy hy=>(lU x l r).mem_iff.1 hy);unfold lL
  split
  .exact h1
  .split
   .rename_i hs
    have e:bN f (aB x l r)=.node f.1 f.2.2 (aB x l r):=by unfold bN;rw[Δ hs]
    unfold ak at h1;rw[e] at h1;exact wN P _ _ _ _ h1
   .rename_i hs
    have e:bN f (aB x l r)=.node f.1 (aB x l r) f.2.2:=by unfold bN;rw[Γ hs]
    unfold ak at h1;rw[e] at h1;exact wN P _ _ _ _ h1
def wE:∀(P:List Fr) (was x:Nat) (l r:BT),Lean l->Lean r->EA P was->Lean (lL P was x l r)
 | [],was,x,l,r,hl,hr,_=>lM hl hr
 |f::P,was,x,l,r,hl,hr,h=>by
  unfold lL
  split
  .rename_i e
   exact(vV _ _).2 ⟨lM hl hr,by grind⟩
  .split
   .exact wE P _ _ _ _ h.1 (lM hl hr) h.2.2
   .exact wE P _ _ _ _ (lM hl hr) h.1 h.2.2
def Heap.frame{A A':NS}:∀{t:BT},Heap A t->(∀x,x∈t.nodes->A'.c x=A.c x)->Heap A' t
 | .nil,_,_=>trivial
 | .node x l r,h,hs=>by
  have hx:=hs x (by simp[BT.nodes]);refine⟨λy hy=>(fC hx (hs y (by simp[BT.nodes,hy]))).2 (h.1 y hy),λy hy=>(fC hx (hs y (by simp[BT.nodes,hy]))).2 (h.2.1 y hy),h.2.2.1.frame (λy hy=>hs y (by simp[BT.nodes,hy])),h.2.2.2.frame (λy hy=>hs y (by simp[BT.nodes,hy]))⟩
structure Tn where
 H:NS->BT->Prop
 frame:∀{A A':NS} {t:BT},H A t->(∀x,x∈t.nodes->A'.c x=A.c x)->H A' t
 nil:∀A,H A .nil
abbrev heapK:Tn:=⟨Heap,Heap.frame,λ_=>trivial⟩
structure xk(K:Tn)(A:NS)(S:TS)(ai:List Int)(tr:Nat->BT):Prop where
 top:∀h,h<A.hs.length->ai.getD h 0=(tr h).root
 Az:∀h,dL S (-1) (tr h).root (tr h)
 mem:∀h x,x∈(tr h).nodes↔0<h/\x<A.cs.length/\(A.c x).i=h
 nd:∀h,(tr h).nodes.Nodup
 heap:∀h,K.H A (tr h)
 free:∀x,x<A.cs.length->(A.c x).i=0->S.l x=-1/\S.r x=-1/\S.u x=-1
abbrev TrI:=xk heapK
def xk.next{K:Tn}{A A':NS}{S d:TS}{ai iV:List Int}{tr c:Nat->BT}(h:xk K A S ai tr)(k:A'.cs.length=A.cs.length)(a:Nat->Prop)
  (f:∀g,a g->c g=tr g/\∀x,x∈(tr g).nodes->S.at d x/\A'.c x=A.c x)
  (n:∀g,a g->∀x,x<A.cs.length->0<g->((A'.c x).i=g↔(A.c x).i=g))
  (j:∀g,¬a g->dL d (-1) (c g).root (c g)/\(c g).nodes.Nodup/\K.H A' (c g)/\∀x,x∈(c g).nodes↔0<g/\x<A.cs.length/\(A'.c x).i=g)
  (l:∀g,g<A'.hs.length->iV.getD g 0=(c g).root)
  (fr:∀x,x<A.cs.length->(A'.c x).i=0->d.l x=-1/\d.r x=-1/\d.u x=-1):xk K A' d iV c:=by
 refine⟨l,λg=>?_,λg x=>?_,λg=>?_,λg=>?_,λx m=>fr x ω⟩
 .by_cases b:a g
  .obtain⟨e,hs⟩:=f g b;rw[e];exact(h.Az g).frame (λy i=>(hs y i).1)
  .exact(j g b).1
 .rw[k]
  by_cases b:a g
  .rw[(f g b).1,h.mem g x]
   grind
  .grind
 .by_cases b:a g
  .rw[(f g b).1];exact h.nd g
  .exact(j g b).2.1
 .by_cases b:a g
  .obtain⟨e,hs⟩:=f g b;rw[e];exact K.frame (h.heap g) (λy i=>(hs y i).2)
  .exact(j g b).2.2.1
def single(x:Nat):BT:=.node x .nil .nil
def xJ{S:TS}{x:Nat}(h:S.l x=-1/\S.r x=-1/\S.u x=-1):dL S (-1) (single x).root (single x):=⟨rfl,h.2.2,h.1,h.2.1⟩
def xk.out{K:Tn}{A:NS}{S:TS}{ai:List Int}{tr:Nat->BT}(h:xk K A S ai tr){x g:Nat}(b:(A.c x).i=0):x∉(tr g).nodes:=λa=>by
 have:=(h.mem g x).1 a;omega
def xk.put{K:Tn}{A:NS}{S o:TS}{ai:List Int}{tr:Nat->BT}(h:xk K A S ai tr)(J:A.Ok)(Q:ai.length=A.hs.length){g x:Nat}{k s:Int}(l:oF A g x=true){t':BT}
  (L:dL o (-1) t'.root t') (hp:t'.nodes.Perm ((tr g).nodes++[x])) (M:K.H (aN A g x k s) t') (hs:∀y,y∉(tr g).nodes++[x]->S.at o y):
  xk K (aN A g x k s) o (ai.set g t'.root) (λq=>if q=g then t' else tr q):=by
 obtain⟨v,w,p⟩:=(fB _ _ _).1 l;have N:=(aF _ _).1 v;have r:x<A.cs.length:=by have:=(il _ _).1 w;omega
 have t:(A.c x).i=0:=by
  have:=(J.nat x r).1;have O:¬(0<(A.c x).i):=λF=>by rw[(aj A x).2 ⟨r,F⟩] at p;cases p
  omega
 have u:∀y,(aN A g x k s).c y=if y=x then⟨g,k,s⟩ else A.c y:=λy=>by
  unfold aN;rw[Δ l,π,mg]
  grind
 have z:(aN A g x k s).cs.length=A.cs.length:=by unfold aN;rw[Δ l,fM]
 have B:(aN A g x k s).hs=A.hs:=by unfold aN;rw[Δ l];rfl
 have C:g<A.hs.length:=ω;refine h.next z (λq=>q≠g) (λq d=>⟨Γ d,λy j=>?_⟩) (λq d y j G=>?_) (λq d=>?_) (λq d=>?_) (λy j c=>?_)
 .have D:y≠x:=λe=>h.out (g:=q) t (by grind);have E:y∉(tr g).nodes:=λH=>by
   have f:=(h.mem g y).1 H;have i:=(h.mem q y).1 j;omega
  grind
 .grind
 .have m:q=g:=Classical.not_not.1 d;subst m;rw[Δ rfl];refine⟨L,hp.nodup_iff.2 ?_,M,λy=>?_⟩
  .rw[θ];refine⟨h.nd q,σ,λa P b I e=>?_⟩;simp only[ϒ] at I;exact h.out (g:=q) t (by grind)
  .rw[hp.mem_iff,τ,ϒ,h.mem q y,u]
   grind
 .rw[B] at d
  by_cases e:q=g
  .grind
  .rw[Γ e,φ,ύ,Γ (λh=>e h.symm),←φ];exact h.top q d
 .rw[u] at c
  by_cases e:y=x
  .grind
  .rw[Γ e] at c;have n:y∉(tr g).nodes++[x]:=by
    simp only[τ,ϒ,e,or_false];exact h.out c
   have f:=h.free y j c;have i:=hs y n;exact⟨i.1.trans f.1,i.2.1.trans f.2.1,i.2.2.trans f.2.2⟩
def FW{K:Tn}(n:Nat):xk K (NS.new n) TS.none [-1] (λ_=>BT.nil):=by
 refine⟨λh a=>?_,λh=>rfl,λh x=>?_,λh=>Ϡ,λh=>K.nil _,λx b _=>⟨rfl,rfl,rfl⟩⟩
 .have:h=0:=by simp[NS.new] at a;exact a
  subst this;rfl
 .rw[NS.uK];simp only[BT.nodes,ς,false_iff,Cl.z];omega
def xk.make{K:Tn}{A:NS}{S:TS}{ai:List Int}{tr:Nat->BT}(h:xk K A S ai tr)(o:A.Ok)(q:ai.length=A.hs.length)(i:¬65536<A.hs.length)  :xk K (aO A) S (ai++[-1]) tr:=by
 have d:(aO A).cs=A.cs:=by unfold aO;rw[Γ i]
 have j:(aO A).hs=A.hs++[true]:=by unfold aO;rw[Γ i]
 have a:∀x,(aO A).c x=A.c x:=λx=>by unfold NS.c;rw[d]
 refine h.next (by rw[d]) (λ_=>True) (λg _=>⟨rfl,λx _=>⟨⟨rfl,rfl,rfl⟩,a x⟩⟩) (λg _ x _ _=>by rw[a]) (λg c=>absurd trivial c) (λg c=>?_) (λx m p=>h.free x m (by grind));rw[j,υ,List.length_singleton] at c
 by_cases e:g<A.hs.length
 .rw[φ,Ρ ω,←φ];exact h.top g e
 .have f:g=ai.length:=ω;have b:tr g=.nil:=by
   cases n:tr g with
   |nil=>rfl
   |node x l r=>
    have k:=(h.mem g x).1 (by rw[n];simp[BT.nodes]);have:=(o.nat x k.2.1).2;omega
  rw[φ,f,ϊ (Θ _)];rw[←f,b];simp[BT.root]


open Go Go.RowKit

def Vg{A:NS}{x:Nat}{k s:Int}(f:iX A x k s=true)(i:x<A.cs.length){l r:BT}(h:Heap A (.node x l r))(b:(BT.node x l r).nodes.Nodup):Heap (aA A x k s) (.node x l r):=by
 simp only[BT.nodes,Ζ,τ,not_or] at b;have a:=wJ f;rw[π] at a;have g:=vk f i;have c:∀y,y≠x->(aA A x k s).c y=A.c y:=λy e=>by rw[g,Γ e]
 have d:(aA A x k s).c x=⟨(A.c x).i,k,s⟩:=by grind
 refine⟨λy m=>nu (h.1 y m) (c y (λe=>b.1.1 (by grind))) ?_,λy m=>nu (h.2.1 y m) (c y (λe=>b.1.2 (by grind))) ?_,h.2.2.1.frame (λy m=>c y (λe=>b.1.1 (by grind))),h.2.2.2.frame (λy m=>c y (λe=>b.1.2 (by grind)))⟩
 .rw[d];exact a
 .rw[d];exact a
def xk.low{K:Tn}{A:NS}{S n:TS}{ai iV:List Int}{tr:Nat->BT}(h:xk K A S ai tr){g x:Nat}{k s:Int}(p:iX A x k s=true)(r:x∈(tr g).nodes){t':BT}
  (v:dL n (-1) t'.root t') (hp:t'.nodes.Perm (tr g).nodes) (w:K.H (aA A x k s) t') (hs:∀y,y∉(tr g).nodes->S.at n y)
  (o:∀q,q<A.hs.length->iV.getD q 0=if q=g then t'.root else ai.getD q 0):
  xk K (aA A x k s) n iV (λq=>if q=g then t' else tr q):=by
 have d:=(h.mem g x).1 r;have t:=vk p d.2.1;have l:=iW p d.2.1;refine h.next (gD _ _ _ _) (λq=>q≠g) (λq a=>⟨Γ a,λy j=>?_⟩) (λq a y j u=>?_) (λq a=>?_) (λq a=>?_) (λy j b=>?_)
 .have c:y∉(tr g).nodes:=λd=>by
   have f:=(h.mem g y).1 d;have i:=(h.mem q y).1 j;omega
  exact⟨hs y c,by rw[t,Γ (λe=>c (by rw[e];exact r))]⟩
 .rw[l]
 .have m:q=g:=Classical.not_not.1 a;subst m;rw[Δ rfl];refine⟨v,hp.nodup_iff.2 (h.nd q),w,λy=>?_⟩;rw[hp.mem_iff,h.mem q y,l]
 .rw[mX] at a;rw[o q a]
  by_cases e:q=g
  .rw[Δ e,Δ e]
  .rw[Γ e,Γ e];exact h.top q a
 .rw[l] at b;have f:=h.free y j b;have i:=hs y (h.out b);exact⟨i.1.trans f.1,i.2.1.trans f.2.1,i.2.2.trans f.2.2⟩
def xk.del{K:Tn}{A:NS}{S d:TS}{ai iV:List Int}{tr:Nat->BT}(h:xk K A S ai tr){g x:Nat}(u:x∈(tr g).nodes){t':BT}
  (z:dL d (-1) t'.root t') (hp:(x::t'.nodes).Perm (tr g).nodes) (B:K.H A t') (hs:∀y,y∉(tr g).nodes->S.at d y) (C:d.l x=-1/\d.r x=-1/\d.u x=-1)
  (t:∀q,q<A.hs.length->iV.getD q 0=if q=g then t'.root else ai.getD q 0):
  xk K (aS A x) d iV (λq=>if q=g then t' else tr q):=by
 have n:=(h.mem g x).1 u;have o:bY A (x:Int)=true:=(aj A x).2 ⟨n.2.1,ω⟩;have k:=zN o;have f:(x::t'.nodes).Nodup:=hp.nodup_iff.2 (h.nd g);have p:x∉t'.nodes:=(Ζ.1 f).1;refine h.next (fF _ _) (λq=>q≠g) (λq c=>⟨Γ c,λy j=>?_⟩) (λq c y j w=>?_) (λq c=>?_) (λq c=>?_) (λy j b=>?_)
 .have i:y∉(tr g).nodes:=λn=>by
   have l:=(h.mem g y).1 n;have m:=(h.mem q y).1 j;omega
  exact⟨hs y i,by rw[k,Γ (λe=>i (by rw[e];exact u))]⟩
 .rw[k]
  by_cases e:y=x
  .rw[Δ e,e]
   show(0:Int)=(q:Int)↔_
   omega
  .rw[Γ e]
 .have r:q=g:=Classical.not_not.1 c;subst r;rw[Δ rfl];refine⟨z,(Ζ.1 f).2,K.frame B (λy j=>by grind),λy=>?_⟩;have v:=hp.mem_iff (a:=y);rw[ρ,h.mem q y] at v;rw[k]
  by_cases e:y=x
  .rw[Δ e,e];refine⟨λs=>absurd s p,λs=>?_⟩;have:(0:Int)=(q:Int):=s.2.2;omega
  .grind
 .rw[jm] at c;rw[t q c]
  by_cases e:q=g
  .rw[Δ e,Δ e]
  .rw[Γ e,Γ e];exact h.top q c
 .rw[k] at b
  by_cases e:y=x
  .rw[e];exact C
  .rw[Γ e] at b;have l:=h.free y j b;have m:=hs y (h.out b);exact⟨m.1.trans l.1,m.2.1.trans l.2.1,m.2.2.trans l.2.2⟩
def oO{A:NS}{a b:Int}(hj:fQ A a b=true):∀{t:BT},Heap A t->Heap (az A a b) t
 | .nil,_=>trivial
 | .node x l r,h=>⟨λy hy=>(oW hj x y).2 (h.1 y hy),λy hy=>(oW hj x y).2 (h.2.1 y hy),oO hj h.2.2.1,oO hj h.2.2.2⟩
def xk.join{K:Tn}{A:NS}{S r:TS}{ai iV:List Int}{tr:Nat->BT}(h:xk K A S ai tr){a b:Nat}(n:fQ A a b=true){t':BT}
  (F:dL r (-1) t'.root t') (hp:t'.nodes.Perm ((tr a).nodes++(tr b).nodes)) (G:K.H (az A a b) t') (hs:∀y,y∉(tr a).nodes++(tr b).nodes->S.at r y)
  (s:∀q,q<A.hs.length->iV.getD q 0=if q=a then t'.root else if q=b then -1 else ai.getD q 0):
  xk K (az A a b) r iV (λq=>if q=a then t' else if q=b then .nil else tr q):=by
 obtain⟨t,u,v⟩:=(dI _ _ _).1 n;have f:=(aF _ _).1 t;have m:=(aF _ _).1 u;have o:∀y,((az A a b).c y).i=if(A.c y).i=b/\y<A.cs.length then(a:Int) else(A.c y).i:=λy=>by rw[pO n]
 have w:a≠b:=λe=>v (by rw[e]);have k:(az A a b).hs.length=A.hs.length:=by unfold az;rw[Δ n];simp
 refine h.next (eU _ _ _) (λq=>q≠a/\q≠b) (λq i=>⟨by grind,λy j=>?_⟩) (λq i y j D=>?_) (λq i=>?_) (λq i=>?_) (λy j l=>?_)
 .have H:=(h.mem q y).1 j;have z:y∉(tr a).nodes:=λp=>by
   have f:=(h.mem a y).1 p;omega
  have B:y∉(tr b).nodes:=λp=>by
   have f:=(h.mem b y).1 p;omega
  refine⟨hs y (by grind),?_⟩;rw[pO n,Γ ω]
 .grind
 .by_cases e:q=a
  .rw[Δ e];refine⟨F,hp.nodup_iff.2 ?_,G,λy=>?_⟩
   .rw[θ];refine⟨h.nd a,h.nd b,λx E y j c=>?_⟩;have C:=(h.mem a x).1 E;have I:=(h.mem b y).1 j;rw[c] at C;omega
   .rw[hp.mem_iff,τ,h.mem a y,h.mem b y,o];subst e;split<;>omega
  .have c:q=b:=ω;rw[Γ e,Δ c];refine⟨rfl,by simp[BT.nodes],K.nil _,λy=>?_⟩;rw[o];simp only[BT.nodes,ς,false_iff]
   split<;>omega
 .rw[k] at i;rw[s q i]
  by_cases e:q=a
  .grind
  .rw[Γ e,Γ e]
   by_cases c:q=b
   .rw[Δ c,Δ c];rfl
   .rw[Γ c,Γ c];exact h.top q i
 .have d:(A.c y).i=0:=by rw[o] at l;split at l<;>omega
  have f:=h.free y j d;have m:=hs y (by simp[h.out (g:=a) d,h.out (g:=b) d]);exact⟨m.1.trans f.1,m.2.1.trans f.2.1,m.2.2.trans f.2.2⟩
instance:Nonempty (List Fr×BT×BT):=⟨([],.nil,.nil)⟩
noncomputable def pathOf(t:BT)(x:Nat):List Fr×BT×BT:=Classical.epsilon λq:List Fr×BT×BT=>t=ak q.1 (.node x q.2.1 q.2.2)
def oM{t:BT}{x:Nat}(h:x∈t.nodes):t=ak (pathOf t x).1 (.node x (pathOf t x).2.1 (pathOf t x).2.2):=by
 obtain⟨P,l,r,e⟩:=zH h;unfold pathOf;exact Classical.epsilon_spec (p:=λq:List Fr×BT×BT=>t=ak q.1 (.node x q.2.1 q.2.2)) ⟨(P,l,r),e⟩
structure LB where
 n0:Nat
 c:Nat
 bt:Nat
 ba:Nat
 br:Nat
structure mf(w:World)(B:LB)(F:List Nat)(gt ct:Nat)(A:NS)(st:Nat)(S:TS)(rk:Nat->Nat)(ai:List Int):Prop where
 head:aQ w B.n0 204 4 (λj=>[Value.pointer (some B.c),.pointer (some B.bt),.slice (some B.br) A.cs.length A.cs.length,.slice (some gt) ai.length ct].getD j undef)
 cells:aD w B.c F A st
 trees:bL w B.bt B.ba A.cs.length S
 ranks:aQ w B.br 3 A.cs.length (λj=>.int .i64 (rk j:Int))
 iP:IZ w gt ct ai
 iY:ai.length=A.hs.length
 bQ:B.n0∉F/\B.bt∉F/\B.ba∉F/\B.br∉F/\gt∉F
 sep:(B.n0≠B.bt/\B.n0≠B.ba/\B.n0≠B.br/\B.n0≠gt)/\(B.bt≠B.br/\B.bt≠gt/\B.ba≠B.br/\B.ba≠gt/\B.br≠gt)
section
variable{w:World}{B:LB}{F:List Nat}{gt ct:Nat}{A:NS}{st:Nat}{S:TS}{rk:Nat->Nat}{ai:List Int}
def LB.blk(B:LB)(F:List Nat)(gt:Nat):List Nat:=B.n0::B.bt::B.ba::B.br::gt::F
def mf.upd{w':World}{G:List Nat}(h:mf w B F gt ct A st S rk ai)(b:ae G w w')(d:∀x,x∈G->x∉B.blk F gt):mf w' B F gt ct A st S rk ai:=by
 have a:∀x,x∈B.blk F gt->x∉G:=λx c e=>d x e c;exact⟨h.head.upd b (a _ (by simp[LB.blk])),h.cells.upd b (λx c=>λf=>d x c (by simp[LB.blk,f])),h.trees.upd b (a _ (by simp[LB.blk])) (a _ (by simp[LB.blk])),h.ranks.upd b (a _ (by simp[LB.blk])),h.iP.upd b (a _ (by simp[LB.blk])),h.iY,h.bQ,h.sep⟩
def mf.ag{w':World}(h:mf w B F gt ct A st S rk ai)(a:ae [] w w'):mf w' B F gt ct A st S rk ai:=h.upd a σ
def mf.lt(h:mf w B F gt ct A st S rk ai):∀x,x∈B.blk F gt->x<w.heap.size:=by
 intro x a;have:=h.head.lt;have:=h.trees.head.lt;have:=h.trees.row.lt;have:=h.ranks.lt;have:=h.iP.lt;simp only[LB.blk,ρ] at a;rcases a with rfl|rfl|rfl|rfl|rfl|a
 .assumption
 .assumption
 .assumption
 .assumption
 .assumption
 .exact h.cells.lt x a
def mf.cF(h:mf w B F gt ct A st S rk ai):B.c∈F:=h.cells.mem
def mf.h0(h:mf w B F gt ct A st S rk ai):w.cell? B.n0=some (B.c:V):=h.head.cellAt 0 ω rfl
def mf.h1(h:mf w B F gt ct A st S rk ai):w.cell? ⟨B.n0,1,none⟩=some (B.bt:V):=h.head.cellAt 1 ω rfl
def mf.h2(h:mf w B F gt ct A st S rk ai):w.cell? ⟨B.n0,2,none⟩=some (.slice (some B.br) A.cs.length A.cs.length):=h.head.cellAt 2 ω rfl
def mf.h3(h:mf w B F gt ct A st S rk ai):w.cell? ⟨B.n0,3,none⟩=some (.slice (some (gt:Nat)) ai.length ct):=h.head.cellAt 3 ω rfl
def mf.iT{w':World}{b:TS}(h:mf w B F gt ct A st S rk ai)(a:ae [B.ba] w w')(d:bL w' B.bt B.ba A.cs.length b):mf w' B F gt ct A st b rk ai:=by
 have s:=h.sep;have f:=h.bQ;have c:=h.trees.ne;exact⟨h.head.upd a ζ,h.cells.upd a (λx e=>by grind),d,h.ranks.upd a ζ,h.iP.upd a ζ,h.iY,f,s⟩
def mf.dm(h:mf w B F gt ct A st S rk ai)(x:Nat)(k:Nat):mf (w.setCell ⟨B.br,x,none⟩ (.int .i64 (k:Int))) B F gt ct A st S (λy=>if y=x then k else rk y) ai:=by
 have s:=h.sep;have f:=h.bQ;have a:ae [B.br] w (w.setCell ⟨B.br,x,none⟩ (.int .i64 (k:Int))):=β;refine⟨h.head.upd a ζ,h.cells.upd a (λx b=>by grind),h.trees.upd a ζ ζ,(h.ranks.set x _).ext (λj c=>?_),h.iP.upd a ζ,h.iY,f,s⟩
 by_cases e:j=x
 .simp only[e,if_true]
 .grind
def mf.mW(h:mf w B F gt ct A st S rk ai)(x:Nat)(k:Int):mf (w.setCell ⟨gt,x,none⟩ (.int .i64 k)) B F gt ct A st S rk (ai.set x k):=by
 have s:=h.sep;have f:=h.bQ;have a:ae [gt] w (w.setCell ⟨gt,x,none⟩ (.int .i64 k)):=β;refine⟨by rw[Ι];exact h.head.upd a ζ,h.cells.upd a (λx b=>by grind),h.trees.upd a ζ ζ,h.ranks.upd a ζ,h.iP.set x k,by rw[Ι];exact h.iY,f,s⟩
def mf.cK{w':World}{F':List Nat}{A':NS}{b:Nat}(h:mf w B F gt ct A st S rk ai)(c:ae F w w')(p:aD w' B.c F' A' b)(q:∀x,x∈F'->x∈F\/w.heap.size<=x)(d:A'.cs.length=A.cs.length)(r:A'.hs.length=A.hs.length):mf w' B F' gt ct A' b S rk ai:=by
 have f:=h.bQ;have g:=h.lt;have a:∀x,x<w.heap.size->x∉F->x∉F':=λx s n o=>by rcases q x o with e|e;exact n e;omega
 have i:=g B.n0 (by simp[LB.blk]);have j:=g B.bt (by simp[LB.blk]);have k:=g B.ba (by simp[LB.blk]);have l:=g B.br (by simp[LB.blk]);have m:=g gt (by simp[LB.blk]);exact⟨by rw[d];exact h.head.upd c f.1,p,by rw[d];exact h.trees.upd c f.2.1 f.2.2.1,by rw[d];exact h.ranks.upd c f.2.2.2.1,h.iP.upd c f.2.2.2.2,by rw[r];exact h.iY,⟨a _ i f.1,a _ j f.2.1,a _ k f.2.2.1,a _ l f.2.2.2.1,a _ m f.2.2.2.2⟩,h.sep⟩
end
def pF(z:Int)(w:World):Calls prog 237 #[(tv z:Int),.bool (tb z)] w λe w'=>e=.returned z/\w'=w:=by
 unfold tv tb
 by_cases h:z=-1
 .subst h;simp only[if_true,ne_eq,not_true,decide_false]
  go_enter func237,ntmps237
  go_wp2;go_ret;exact⟨rfl,rfl⟩
 .rw[Γ h,Ν h]
  go_enter func237,ntmps237
  go_wp2;go_ret;exact⟨rfl,rfl⟩
def jk(rk:Nat->Nat)(z:Int):Int:=if z=-1 then 0 else(rk z.toNat:Int)
section
variable{w:World}{B:LB}{F:List Nat}{gt ct:Nat}{A:NS}{st:Nat}{S:TS}{rk:Nat->Nat}{ai:List Int}
def lI(h:mf w B F gt ct A st S rk ai)(z:Int)(b:z=-1\/(0<=z/\z<A.cs.length)):
  Calls prog 248 #[B.n0,z] w λe w'=>e=.returned (jk rk z:Int)/\w'=w:=by
 unfold jk;have c:=h.h2
 by_cases e:z=-1
 .subst e;clear h
  go_enter func248,ntmps248
  go_wp2;go_ret;exact⟨rfl,rfl⟩
 .obtain⟨i,rfl⟩:∃i:Nat,z=i:=⟨z.toNat,ω⟩;have a:i<A.cs.length:=ω;have d:=h.ranks.cell i a;have f:((i:Int) == -1)=false:=σ;rw[Γ e];simp only[π];clear h e b
  go_enter func248,ntmps248
  go_wp2;go_ret;exact⟨rfl,rfl⟩
def ET(rk:Nat->Nat)(z:Int):0<=jk rk z:=by unfold jk;split<;>omega
def GQ(h:mf w B F gt ct A st S rk ai)(x:Nat)(M:x<A.cs.length)(t:S.l x=-1\/(0<=S.l x/\S.l x<A.cs.length))(u:S.r x=-1\/(0<=S.r x/\S.r x<A.cs.length))(N:jk rk (S.l x)<=65536)(v:jk rk (S.r x)<=65536)(Y:jk rk (S.l x)<jk rk (S.r x)):
  Calls prog 245 #[B.n0,(x:Int)] w λe w'=>e=.returned (.tuple #[])/\ae [B.ba,B.br] w w'/\mf w' B F gt ct A st (jS S x) (λy=>if y=x then(jk rk (S.l x)).toNat + 1 else rk y) ai:=by
 have m:=λd=>Cu B.bt B.ba A.cs.length S (x:Int) (w.drewN d) (h.trees.drewN d);have n:=λd=>q9 B.bt B.ba A.cs.length S (x:Int) (w.drewN d) (h.trees.drewN d);rw[show iA A.cs.length S (x:Int) false=S.l x by unfold iA TS.kid;rw[Δ ω];simp] at m;rw[show iA A.cs.length S (x:Int) true=S.r x by unfold iA TS.kid;rw[Δ ω];simp] at n;have C:∀d,(w.drewN d).cell? ⟨B.n0,1,none⟩=some (B.bt:V):=λd=>h.h1;have H:=χ h;have D:=λd=>lI (h.ag ((ae.refl [] w).drewN d)) (S.l x) t;have E:=λd=>lI (h.ag ((ae.refl [] w).drewN d)) (S.r x) u
 have Q:0<=jk rk (S.l x)/\jk rk (S.l x)<=65536:=⟨ET _ _,N⟩;clear N v;have R:=χ (ψ t u);generalize i:S.l x=L at *;generalize K:S.r x=X at *;generalize j:jk rk L=a at *;generalize k:jk rk X=b at *;have T:=χ (ψ i (ψ K (ψ j k)));have hs:=h.sep;clear h i K j k t u
 go_enter func245,ntmps245
 go_wp2
 go_quiet ((first
  |(go_at_call 238;exact Calls.quiet_of (m _))
  |(go_at_call 239;exact Calls.quiet_of (n _))
  | (go_at_call 237;exact Calls.quiet_of_same (pF _ _))))
 have G:=χ (H.out.ag ((ae.refl [] w).drewN nq));have o:=D nq;have p:=E nq;have Z:=C nq;clear m n C D E;have U:=CP B.bt B.ba A.cs.length S x (w.drewN nq) G.out.trees M
 go_wp2_with (first
  |((with_reducible refine aP o ?_))
  |((with_reducible refine aP p ?_))
  | ((with_reducible refine U.mono ?_);rintro e l ⟨rfl,O,c⟩))
 have g:=χ (G.out.iT c O);have q:ae [B.ba,B.br] w l:=((ae.refl _ w).drewN nq).trans (c.mono σ);have I:=λW (s:ae [] l W)=>lI (g.out.ag s) L R.out.1;rw[T.out.2.2.1] at I;have r0:∀W,ae [B.br] l W->W.cell? ⟨B.n0,2,none⟩=some (.slice (some B.br) A.cs.length A.cs.length):=λW s=>s.kept g.out.h2 ζ;have d0:=g.out.ranks.cell x M;have d1:=g.out.ranks.free x;have r:IntKind.i64.wrap (a+1)=a+1:=Μ _ ω
 go_region_held3 (ae [B.br] l) (exact ν) (((with_reducible refine((I _ β)).mono ?_);rintro e P ⟨rfl,z⟩;rw[z];clear z P))
 go_wp2;go_end0;clear r;obtain⟨f,rfl⟩:∃f:Nat,a=f:=⟨a.toNat,ω⟩;have J:=g.out.dm x (f+1);rw[show((f+1:Nat):Int)=(f:Int)+1 by omega] at J;exact⟨rfl,((q.setCell (Α σ) _)).drew,J.ag ((ae.refl _ _).drew)⟩
def GY(h:mf w B F gt ct A st S rk ai)(x:Nat)(P:x<A.cs.length)(t:S.l x=-1\/(0<=S.l x/\S.l x<A.cs.length))(u:S.r x=-1\/(0<=S.r x/\S.r x<A.cs.length))(Q:jk rk (S.l x)<=65536)(n:jk rk (S.r x)<=65536)(R:¬jk rk (S.l x)<jk rk (S.r x)):
  Calls prog 245 #[B.n0,(x:Int)] w λe w'=>e=.returned (.tuple #[])/\ae [B.ba,B.br] w w'/\mf w' B F gt ct A st S (λy=>if y=x then(jk rk (S.r x)).toNat + 1 else rk y) ai:=by
 have o:=λd=>Cu B.bt B.ba A.cs.length S (x:Int) (w.drewN d) (h.trees.drewN d);have p:=λd=>q9 B.bt B.ba A.cs.length S (x:Int) (w.drewN d) (h.trees.drewN d);rw[show iA A.cs.length S (x:Int) false=S.l x by unfold iA TS.kid;rw[Δ ω];simp] at o;rw[show iA A.cs.length S (x:Int) true=S.r x by unfold iA TS.kid;rw[Δ ω];simp] at p;have K:∀d,(w.drewN d).cell? ⟨B.n0,1,none⟩=some (B.bt:V):=λd=>h.h1;have H:=χ h;have z:=λd=>lI (h.ag ((ae.refl [] w).drewN d)) (S.l x) t;have C:=λd=>lI (h.ag ((ae.refl [] w).drewN d)) (S.r x) u
 have L:0<=jk rk (S.r x)/\jk rk (S.r x)<=65536:=⟨ET _ _,n⟩;clear Q n;have M:=χ (ψ t u);generalize k:S.l x=O at *;generalize G:S.r x=I at *;generalize l:jk rk O=a at *;generalize m:jk rk I=b at *;have N:=χ (ψ k (ψ G (ψ l m)));have hs:=h.sep;clear h k G l m t u
 go_enter func245,ntmps245
 go_wp2
 go_quiet ((first
  |(go_at_call 238;exact Calls.quiet_of (o _))
  |(go_at_call 239;exact Calls.quiet_of (p _))
  | (go_at_call 237;exact Calls.quiet_of_same (pF _ _))))
 have g:=χ (H.out.ag ((ae.refl [] w).drewN nq));have i:=z nq;have j:=C nq;clear o p K z C
 go_wp2_with (first
  |((with_reducible refine aP i ?_))
  | ((with_reducible refine aP j ?_)))
 obtain⟨f,c⟩:∃f,f=w.drewN nq:=⟨_,rfl⟩;have q:ae [B.ba,B.br] w f:=by rw[c];exact(ae.refl _ w).drewN nq
 rw[←c] at g ⊢;clear c i j;have D:=λW (s:ae [] f W)=>lI (g.out.ag s) I M.out.2;rw[N.out.2.2.2] at D;have T:∀W,ae [B.br] f W->W.cell? ⟨B.n0,2,none⟩=some (.slice (some B.br) A.cs.length A.cs.length):=λW s=>s.kept g.out.h2 ζ;have U:=g.out.ranks.cell x P;have X:=g.out.ranks.free x;have r:IntKind.i64.wrap (b+1)=b+1:=Μ _ ω
 go_region_held3 (ae [B.br] f) (exact ν) (((with_reducible refine((D _ β)).mono ?_);rintro e J ⟨rfl,v⟩;rw[v];clear v J))
 go_wp2;go_end0;clear r;obtain⟨bn,rfl⟩:∃bn:Nat,b=bn:=⟨b.toNat,ω⟩;have E:=g.out.dm x (bn+1);rw[show((bn+1:Nat):Int)=(bn:Int)+1 by omega] at E;exact⟨rfl,((q.setCell (Α σ) _)).drew,E.ag ((ae.refl _ _).drew)⟩
end
def Gu:∀t:BT,t.rank<=t.size
 | .nil=>Θ _
 | .node x l r=>by have:=Gu r;simp only[BT.rank,BT.size];omega
def oC{n:Nat}{l:List Nat}(f:l.Nodup)(g:∀x,x∈l->x<n):l.length<=n:=by
 have:=nodup_range n (l.map λ(x:Nat)=>(x:Int)) (by
  unfold List.Nodup;rw[List.pairwise_map];exact f.imp (λ{a b} h e=>h ω)) (λy d=>by
  obtain⟨x,c,rfl⟩:=List.mem_map.1 d;have:=g x c
  exact ⟨ω,ω⟩)
 simpa using this
def BM{rk:Nat->Nat}{t:BT}(h:gz rk t):jk rk t.root=t.rank:=by
 unfold jk
 by_cases e:t=.nil
 .subst e;simp[BT.root,BT.rank]
 .have:=cB e;rw[Γ ω];rw[h.root e]
def yg{n:Nat}{t:BT}(h:∀x,x∈t.nodes->x<n):t.root=-1\/(0<=t.root/\t.root<n):=by
 by_cases e:t=.nil
 .subst e;exact Α rfl
 .have a:=cB e
  grind
def UQ{S:TS}{p:Int}{x:Nat}{l r:BT}(a:S.u x=p)(b:dL S x (S.l x) l)(c:dL S x (S.r x) r):dL S p x (.node x l r):=⟨rfl,a,b,c⟩
section
variable{w:World}{B:LB}{F:List Nat}{gt ct:Nat}{A:NS}{st:Nat}{S:TS}{rk:Nat->Nat}{ai:List Int}
def sQ(h:mf w B F gt ct A st S rk ai){p:Int}{x:Nat}{l r:BT}(O:dL S p x (.node x l r))(D:gz rk l)(E:gz rk r)(P:(BT.node x l r).nodes.Nodup)(k:∀y,y∈(BT.node x l r).nodes->y<A.cs.length):
  Calls prog 245 #[B.n0,(x:Int)] w λe w'=>e=.returned (.tuple #[])/\ae [B.ba,B.br] w w'/\
   ∃d C,mf w' B F gt ct A st d C ai/\dL d p x (aB x l r)/\gz C (aB x l r)/\(∀y,y≠x->S.at d y)/\d.u x=S.u x/\(∀y,y≠x->C y=rk y):=by
 obtain⟨_,G,s,f⟩:=O;have H:=k x (by simp[BT.nodes]);have g:∀y,y∈l.nodes->y<A.cs.length:=λy a=>k y (by simp[BT.nodes,a]);have i:∀y,y∈r.nodes->y<A.cs.length:=λy a=>k y (by simp[BT.nodes,a]);have Q:=h.cells.ok.c1;have b:=P;simp only[BT.nodes,Ζ,τ,not_or,θ] at b;have K:=oC b.2.1 g;have L:=oC b.2.2.1 i;rw[BT.mY] at K L;have R:=Gu l;have T:=Gu r;have t:=s.root;have u:=f.root;have fr:∀{d:TS},(∀y,y≠x->S.at d y)->(∀z,dL S x z l->dL d x z l)/\(∀z,dL S x z r->dL d x z r):=λJ=>
  ⟨λz v=>v.frame (λy a=>J y (λe=>b.1.1 (by rw[←e];exact a))),λz v=>v.frame (λy a=>J y (λe=>b.1.2 (by rw[←e];exact a)))⟩
 have m:jk rk (S.l x)=l.rank:=by rw[t];exact BM D
 have n:jk rk (S.r x)=r.rank:=by rw[u];exact BM E
 by_cases c:l.rank<r.rank
 .refine(GQ h x H (by rw[t];exact yg g) (by rw[u];exact yg i) (by rw[m];omega) (by rw[n];omega) (by rw[m,n];omega)).mono ?_;rintro e w' ⟨rfl,o,q⟩;have j:∀y,y≠x->S.at (jS S x) y:=λy a=>⟨by unfold jS TS.aM;simp[a],by unfold jS TS.aM;simp[a],by unfold jS TS.aM;simp⟩
  have M:(jS S x).l x=S.r x:=by unfold jS TS.aM;simp
  have N:(jS S x).r x=S.l x:=by unfold jS TS.aM;simp
  have I:(jS S x).u x=S.u x:=by unfold jS TS.aM;simp
  refine⟨rfl,o,_,_,q,?_,?_,j,I,λy a=>by rw[Γ a]⟩
  .unfold aB;rw[Δ c];exact⟨rfl,by rw[I];exact G,by rw[M];exact(fr j).2 _ f,by rw[N];exact(fr j).1 _ s⟩
  .unfold aB;rw[Δ c];refine⟨by simp[m],E.frame (λy a=>by rw[Γ (λe=>b.1.2 (by rw[←e];exact a))]),D.frame (λy a=>by rw[Γ (λe=>b.1.1 (by rw[←e];exact a))])⟩
 .refine(GY h x H (by rw[t];exact yg g) (by rw[u];exact yg i) (by rw[m];omega) (by rw[n];omega) (by rw[m,n];omega)).mono ?_;rintro e w' ⟨rfl,o,q⟩;refine⟨rfl,o,_,_,q,?_,?_,λy _=>⟨rfl,rfl,rfl⟩,rfl,λy a=>by rw[Γ a]⟩
  .unfold aB;rw[Γ c];exact⟨rfl,G,s,f⟩
  .unfold aB;rw[Γ c];refine⟨by simp[n],D.frame (λy a=>by rw[Γ (λe=>b.1.1 (by rw[←e];exact a))]),E.frame (λy a=>by rw[Γ (λe=>b.1.2 (by rw[←e];exact a))])⟩
end
def BT.zo{t:BT}(h:t≠.nil):t.root=(t.root.toNat:Int):=(cB h).2
def Be(S:TS)(x:Nat)(r:BT):TS:=match r with | .nil=>S | .node y _ _=>nY S x y
def RF{S:TS}{p:Int}{x:Nat}{l r:BT}(h:dL S p x (.node x l r))(i:(BT.node x l r).nodes.Nodup):
  dL (Be S x r) p x (.node x l .nil)/\dL (Be S x r) (-1) r.root r/\∀y,y≠x->y∉r.nodes->S.at (Be S x r) y:=by
 obtain⟨_,n,k,g⟩:=h;simp only[BT.nodes,Ζ,τ,not_or,θ] at i;cases r with
 |nil=>exact⟨⟨rfl,n,k,g⟩,rfl,λy _ _=>⟨rfl,rfl,rfl⟩⟩
 |node y a b=>
  have o:x≠y:=λe=>i.1.2 (by rw[e];simp[BT.nodes]);have f:S.r x=y:=g.1;have e:Be S x (.node y a b)=nY S x y:=rfl;rw[e];have c:∀z,(nY S x y).l z=S.l z:=λz=>by unfold nY TS.aM TS.dE;rw[Ν f];rfl
  have j:∀z,(nY S x y).r z=if z=x then -1 else S.r z:=λz=>by unfold nY TS.aM TS.dE;rw[Ν f];rfl
  have d:∀z,(nY S x y).u z=if z=y then -1 else S.u z:=λz=>by unfold nY TS.aM TS.dE;rw[Ν f];rfl
  refine⟨⟨rfl,by grind,?_,by rw[j,Δ rfl];rfl⟩,?_,λz u s=>⟨c z,by grind,by rw[d,Γ (λe=>s (by rw[e];simp[BT.nodes]))]⟩⟩
  .rw[c];refine k.frame (λz m=>⟨c z,by grind,by rw[d,Γ (λe=>i.2.2.2 z m y (by simp[BT.nodes]) e)]⟩)
  .have q:dL S x ((BT.node y a b).root) (.node y a b):=by rw[←g.root];exact g
   refine q.Rv (p':=-1) i.2.2.1 (λz m=>⟨c z,by grind,λt=>by rw[d,Γ (λe=>t (by rw[e];simp[BT.root]))]⟩) (λ_=>by rw[d];simp[BT.root])
def EG{S:TS}{p:Int}{x:Nat}{l m:BT}(h:dL S p x (.node x l .nil))(k:dL S (-1) m.root m)(c:m≠.nil)(d:(BT.node x l m).nodes.Nodup):
  dL (lX S x m.root true) p x (.node x l m)/\∀y,y≠x->y∉m.nodes->S.at (lX S x m.root true) y:=by
 obtain⟨_,n,f,_⟩:=h;simp only[BT.nodes,Ζ,τ,not_or,θ] at d;obtain⟨o,q⟩:=cB c;have a:∀z,(lX S x m.root true).l z=S.l z:=λz=>by unfold lX TS.aM TS.dE;rfl
 have b:∀z,(lX S x m.root true).r z=if z=x then m.root else S.r z:=λz=>by unfold lX TS.aM TS.dE;simp
 have g:∀z,(lX S x m.root true).u z=if z=m.root.toNat then(x:Int) else S.u z:=λz=>by unfold lX TS.aM TS.dE;simp
 have i:x≠m.root.toNat:=λe=>d.1.2 (by grind);refine⟨⟨rfl,by grind,?_,?_⟩,λz r s=>⟨a z,by grind,by grind⟩⟩
 .rw[a];exact f.frame (λz j=>⟨a z,by grind,by grind⟩)
 .rw[b,Δ rfl];exact k.Rv (p':=(x:Int)) d.2.2.1 (λz j=>⟨a z,by grind,λt=>by grind⟩) (λ_=>by grind)
structure Down(up:Nat->BT->BT->BT)(A:NS)(S0:TS)(ta tb:BT)(S:TS)(W:List (Nat×BT))(a b:BT):Prop where
 isA:dL S (-1) a.root a
 isB:dL S (-1) b.root b
 way:∀p,p∈W->dL S (-1) (p.1:Int) (.node p.1 p.2 .nil)
 far:∀y,y∉ta.nodes++tb.nodes->S0.at S y
 perm:(wO W++(a.nodes++b.nodes)).Perm (ta.nodes++tb.nodes)
 res:aI up A ta tb=(wU up W (aI up A a b).1,W.length+(aI up A a b).2)
def Down.start(up:Nat->BT->BT->BT)(A:NS){S0:TS}{ta tb:BT}(a:dL S0 (-1) ta.root ta)(b:dL S0 (-1) tb.root tb):Down up A S0 ta tb S0 [] ta tb:=
 ⟨a,b,λp hp=>(by cases hp),λy _=>⟨rfl,rfl,rfl⟩,by simp[wO],by simp[wU]⟩
def rR(W:List (Nat×BT))(x:Nat)(l:BT):wO (W++[(x,l)])=wO W++(x::l.nodes):=by unfold wO;simp
def GN{W:List (Nat×BT)}{p:Nat×BT}(hp:p∈W):p.1∈wO W/\∀y,y∈p.2.nodes->y∈wO W:=by
 unfold wO
 grind
def Down.take{up:Nat->BT->BT->BT}{A:NS}{S0 S:TS}{ta tb b l r:BT}{x:Nat}{W:List (Nat×BT)}(z:(ta.nodes++tb.nodes).Nodup)
  (B:dL S (-1) (x:Int) (.node x l r)) (C:dL S (-1) b.root b) (D:∀p,p∈W->dL S (-1) (p.1:Int) (.node p.1 p.2 .nil)) (E:∀y,y∉ta.nodes++tb.nodes->S0.at S y)
  (h:(wO W++((BT.node x l r).nodes++b.nodes)).Perm (ta.nodes++tb.nodes)) (F:aI up A ta tb=(wU up W (up x l (aI up A r b).1),W.length+((aI up A r b).2+1))):
  Down up A S0 ta tb (Be S x r) (W++[(x,l)]) r b:=by
 have c:=h.nodup_iff.2 z;rw[θ] at c;obtain⟨G,m,n⟩:=c;rw[θ] at m;obtain⟨s,H,o⟩:=m;obtain⟨t,u,i⟩:=RF B s;have d:∀y,y∉ta.nodes++tb.nodes->y≠x/\y∉r.nodes:=λy a=>
  ⟨λe=>a (h.mem_iff.1 (by rw[e];simp[BT.nodes])),λg=>a (h.mem_iff.1 (by simp[BT.nodes,g]))⟩
 refine⟨u,C.frame (λy a=>i y (λe=>o x (by simp[BT.nodes]) y a e.symm) (λg=>o y (by simp[BT.nodes,g]) y a rfl)),λp hp=>?_,λy a=>?_,?_,?_⟩
 .rcases τ.1 hp with hp|hp
  .have q:=GN hp;refine(D p hp).frame (λy a=>?_);have f:y∈wO W:=by
    simp only[BT.nodes,Υ,ρ] at a;rcases a with rfl|a
    .exact q.1
    .exact q.2 y a
   exact i y (λe=>n y f x (by simp[BT.nodes]) e) (λg=>n y f y (by simp[BT.nodes,g]) rfl)
  .simp only[ϒ] at hp;subst hp;exact t
 .obtain⟨v,w⟩:=d y a;have j:=E y a;have k:=i y v w;exact⟨k.1.trans j.1,k.2.1.trans j.2.1,k.2.2.trans j.2.2⟩
 .rw[rR];refine ϝ ?_ h;simp only[BT.nodes,ϋ,List.cons_append];exact ό _
 .rw[F,BO];simp only[υ,Ω,List.length_nil];exact Prod.ext rfl (by grind)
def Down.takeA{up:Nat->BT->BT->BT}{A:NS}{S0 S:TS}{ta tb l r b c:BT}{x y:Nat}{W:List (Nat×BT)}(h:Down up A S0 ta tb S W (.node x l r) (.node y b c))(d:(ta.nodes++tb.nodes).Nodup)(a:¬dA A y x):
  Down up A S0 ta tb (Be S x r) (W++[(x,l)]) r (.node y b c):=by
 refine Down.take d h.isA h.isB h.way h.far h.perm ?_;rw[h.res,qL,Γ a]
def Down.takeB{up:Nat->BT->BT->BT}{A:NS}{S0 S:TS}{ta tb l r c a:BT}{x y:Nat}{W:List (Nat×BT)}(h:Down up A S0 ta tb S W (.node x l r) (.node y c a))(d:(ta.nodes++tb.nodes).Nodup)(b:dA A y x):
  Down up A S0 ta tb (Be S y a) (W++[(y,c)]) a (.node x l r):=by
 refine Down.take d h.isB h.isA h.way h.far ?_ ?_
 .refine ϝ ?_ h.perm
  grind
 .rw[h.res,qL,Δ b]
structure Yy(up:Nat->BT->BT->BT)(S0:TS)(X:List Nat)(t:BT)(S:TS)(W:List (Nat×BT))(m:BT):Prop where
 isM:dL S (-1) m.root m
 way:∀p,p∈W->dL S (-1) (p.1:Int) (.node p.1 p.2 .nil)
 far:∀y,y∉X->S0.at S y
 perm:(wO W++m.nodes).Perm X
 res:t=wU up W m
def Down.turn{up:Nat->BT->BT->BT}{A:NS}{S0 S:TS}{ta tb a b:BT}{W:List (Nat×BT)}(h:Down up A S0 ta tb S W a b)(c:a=.nil\/b=.nil):
  ∃m,m.root=(if a.root=-1 then b.root else a.root)/\Yy up S0 (ta.nodes++tb.nodes) (aI up A ta tb).1 S W m/\(aI up A ta tb).2=W.length/\(m=a\/m=b):=by
 rcases c with rfl|rfl
 .refine⟨b,by simp[BT.root],⟨h.isB,h.way,h.far,by simpa[BT.nodes] using h.perm,by rw[h.res,mP]⟩,by rw[h.res,mP];simp,Β rfl⟩
 .refine⟨a,?_,⟨h.isA,h.way,h.far,by simpa[BT.nodes] using h.perm,by rw[h.res,qB]⟩,by rw[h.res,qB];simp,Α rfl⟩
  split
  .rename_i e;rw[e];rfl
  .rfl
def Yy.turn{up:Nat->BT->BT->BT}{S0 S2 h:TS}{X:List Nat}{t m l:BT}{x:Nat}{W:List (Nat×BT)}(U:Yy up S0 X t S2 (W++[(x,l)]) m)(K:Vf up)(j:X.Nodup)
  (k:dL h (-1) x (up x l m)) (n:∀y,y≠x->y∉l.nodes->y∉m.nodes->S2.at h y):Yy up S0 X t h W (up x l m):=by
 have hp:=U.perm;rw[rR,ϋ] at hp;have b:=hp.nodup_iff.2 j;rw[θ] at b;obtain⟨o,q,r⟩:=b;refine⟨by rw[K.root];exact k,λp c=>?_,λy a=>?_,?_,by rw[U.res,BO]⟩
 .have s:=GN c;refine(U.way p (List.mem_append_left _ c)).frame (λy a=>?_);have i:y∈wO W:=by
   simp only[BT.nodes,Υ,ρ] at a
   grind
  grind
 .have d:=U.far y a;have f:=n y (λe=>a (hp.mem_iff.1 (by rw[e];simp))) (λg=>a (hp.mem_iff.1 (by simp[g]))) (λg=>a (hp.mem_iff.1 (by simp[g])));exact⟨f.1.trans d.1,f.2.1.trans d.2.1,f.2.2.trans d.2.2⟩
 .refine ϝ (List.Perm.append_left _ (K.nodes x l m)) ?_;simpa using hp
def Yy.len{up:Nat->BT->BT->BT}{S0 S:TS}{X:List Nat}{t m:BT}{W:List (Nat×BT)}(U:Yy up S0 X t S W m):W.length<=X.length:=by
 have:=U.perm.length_eq;rw[υ] at this;have a:W.length<=(wO W).length:=by
  clear this U
  induction W with
  |nil=>simp
  |cons p t b=>unfold wO at *;simp only[List.flatMap_cons,υ,Ω];omega
 omega
def Down.len{up:Nat->BT->BT->BT}{A:NS}{S0 S:TS}{ta tb a b:BT}{W:List (Nat×BT)}(U:Down up A S0 ta tb S W a b):W.length+a.nodes.length+b.nodes.length<=(ta.nodes++tb.nodes).length:=by
 have:=U.perm.length_eq;rw[υ,υ] at this;have c:W.length<=(wO W).length:=by
  clear this U
  induction W with
  |nil=>simp
  |cons p t d=>unfold wO at *;simp only[List.flatMap_cons,υ,Ω];omega
 omega
def El{S0 S2:TS}{X:List Nat}{t m l:BT}{x:Nat}{W:List (Nat×BT)}{Dk c:Nat->Nat}{up:Nat->BT->BT->BT}(U:Yy up S0 X t S2 (W++[(x,l)]) m)(f:X.Nodup)
  (g:∀y,y≠x->c y=Dk y) (h:∀p,p∈W->gz Dk p.2):∀p,p∈W->gz c p.2:=λp hp=>by
 have a:=U.perm;rw[rR,ϋ] at a;have b:=a.nodup_iff.2 f;rw[θ] at b;exact(h p hp).frame (λy d=>g y (λe=>b.2.2 y ((GN hp).2 y d) x σ e))
section
variable{w:World}{B:LB}{F:List Nat}{gt ct:Nat}{A:NS}{st:Nat}{S:TS}{rk:Nat->Nat}{ai:List Int}
def Qz(h:mf w B F gt ct A st S rk ai){p:Int}{x:Nat}{l r:BT}(c:dL S p x (.node x l r))(i:x<A.cs.length)(j:∀y,y∈r.nodes->y<A.cs.length):
  Calls prog 234 #[B.bt,r.root] w λe w'=>(∃v,e=.returned v)/\mf w' B F gt ct A st (Be S x r) rk ai/\ae [B.ba] w w':=by
 cases r with
 |nil=>
  refine(Hg B.bt B.ba A.cs.length S (-1) w h.trees (by unfold qV;simp)).mono ?_;rintro e w' ⟨rfl,rfl⟩;exact⟨⟨_,rfl⟩,h,ae.refl _ _⟩
 |node y a b=>
  obtain⟨_,_,_,d⟩:=c;have g:S.u y=x:=d.2.1;refine(G8 B.bt B.ba A.cs.length S x y w h.trees i (j y (by simp[BT.nodes])) g).mono ?_;rintro e w' ⟨rfl,c,f⟩;exact⟨⟨_,rfl⟩,h.iT f c,f⟩
def LZ(h:mf w B F gt ct A st S rk ai){p:Int}{x:Nat}{l r:BT}(a:dL S p x (.node x l r))(b:x<A.cs.length):
  Calls prog 239 #[B.bt,(x:Int)] w λe w'=>e=.returned (.tuple #[(tv r.root:Int),.bool (tb r.root)])/\ae [] w w':=by
 have e:iA A.cs.length S (x:Int) true=r.root:=by
  unfold iA TS.kid;rw[Δ ω];simp only[if_true,π];exact a.2.2.2.root
 refine(q9 B.bt B.ba A.cs.length S (x:Int) w h.trees).mono ?_;rw[e];rintro e w' ⟨rfl,k,rfl⟩;exact⟨rfl,(ae.refl _ _).drewN k⟩
def NP(W:List (Nat×BT)):List Value:=aZ (W.map λp=>(p.1:Int))
def Ed(W:List (Nat×BT))(x:Nat)(l:BT):NP (W++[(x,l)])=NP W++[.int .i64 (x:Int)]:=by unfold NP aZ;simp
def sW(h:mf w B F gt ct A st S rk ai){ta tb:BT}(ha:dL S (-1) ta.root ta)(hb:dL S (-1) tb.root tb)(hX:(ta.nodes++tb.nodes).Nodup)(hin:∀y,y∈ta.nodes++tb.nodes->bY A (y:Int)=true)(ra:gz rk ta)(rb:gz rk tb):
  Calls prog 236 #[B.n0,ta.root,tb.root] w λe w'=>e=.returned (.int .i64 (aI aB A ta tb).1.root)/\ae [B.c,B.ba,B.br] w w'/\
   ∃S' nN,mf w' B F gt ct A (dw st (aI aB A ta tb).2) S' nN ai/\dL S' (-1) (aI aB A ta tb).1.root (aI aB A ta tb).1/\gz nN (aI aB A ta tb).1/\∀y,y∉ta.nodes++tb.nodes->S.at S' y/\nN y=rk y:=by
 have c:=h.lt;have qj:=h.cF;have hbl2:=c B.ba (by simp[LB.blk]);have hbl3:=c B.br (by simp[LB.blk]);have hbl4:=c B.c (by simp[LB.blk,qj]);have hs:=χ h.sep;have hA:=h.cells.ok.c1;have n:Hid (∀y,y∈ta.nodes++tb.nodes->y<A.cs.length):=λy M=>((aj A y).1 (hin y M)).1;have hXl:(ta.nodes++tb.nodes).length<=A.cs.length:=oC hX n.out;have HM0:=χ h;have HBL:=χ c;have D0:=χ (Down.start aB A ha hb);have QV:=χ hin;have HX:=χ hX;have RA:=χ (ψ ra rb);have hst:=h.cells.oG;clear h ha hb c qj hin hX ra rb
 go_enter func236,ntmps236
 go_wp2
 go_loopw [1,2,7] (λa b way wr=>∃(S1:TS) (W:List (Nat×BT)) (f P:BT),a=.int .i64 f.root/\b=.int .i64 P.root/\wr.ownsRow w.heap.size 3 1 way W.length (NP W)/\mf wr B F gt ct A (dw st W.length) S1 rk ai/\Down aB A S ta tb S1 W f P/\gz rk f/\gz rk P/\(∀p,p∈W->gz rk p.2)/\ae [B.c,B.ba] w wr) (λ_ _ way _=>(ta.nodes++tb.nodes).length-lenOf way)
 case atStart=>
  exact⟨S,[],ta,tb,rfl,rfl,⟨by simp[NP,aZ],Α ⟨rfl,rfl⟩⟩,by rw[List.length_nil,fG hst];exact HM0.out.ag β,D0.out,RA.out.1,RA.out.2,(λp hp=>by cases hp),β⟩
 case round=>
  obtain⟨S1,W,f,P,rfl,rfl,ho,L,hD,r1,r2,r3,C⟩:=hrel;have HM:=χ L;have HD:=χ hD;have G:=χ (ψ r1 (ψ r2 r3));have HO:=χ ho;have H:=hD.len;have h0:=L.h0;have I:=L.h1;clear L hD r1 r2 r3;obtain⟨a5,c5,rfl,hc5⟩:=bz ho;have K9:∀g,(Value.slice a5 W.length c5).ownBlock=some g->w.heap.size<=g:=λg hg=>(ho.lt g hg).1;have Zf:=χ K9;clear ho K9
  by_cases t:f=.nil\/P=.nil
  .obtain⟨m0,e0,U0,D,hor⟩:=HD.out.turn t;have hm0:gz rk m0:=by rcases hor with rfl|rfl;exact G.out.1;exact G.out.2.1
   have hz:f.root=-1\/(f.root≠-1/\P.root=-1):=by
    rcases t with rfl|rfl
    .exact Α rfl
    .by_cases e:f.root=-1
     .exact Α e
     .exact Β ⟨e,rfl⟩
   have HU:=χ (ψ U0 (ψ hm0 (ψ D G.out.2.2)));have hWl:=U0.len;have HUP:=χ C;rw[←D] at HM;clear t hor U0 hm0 G HD D C H h0;generalize f.root=za at *;generalize P.root=zb at *;have HEX:Hid (∃W2 Q:List (Nat×BT),W=W2++Q):=⟨W,[],σ⟩;have e9:∃z9,m0.root=z9:=⟨_,rfl⟩;obtain⟨z9,e9⟩:=e9;rw[e9] at e0;generalize hn0:W.length=n0 at *;have Zw:=χ hn0;clear hn0;rcases hz with rfl|⟨hz1,rfl⟩
   all_goals
    first|rw[Δ rfl] at e0|rw[Γ hz1] at e0
    subst e0
    try(have hz2:(z9 != -1)=true:=by simpa using hz1)
    try(have hz3:(z9 == -1)=false:=by simpa using hz1)
    go_wp2
    go_loopw [9,10] (λtop i w5=>∃(S2:TS) (W2 Q:List (Nat×BT)) (m:BT) (Dk:Nat->Nat),W=W2++Q/\top=.int .i64 m.root/\i=.int .i64 ((W2.length:Int)-1)/\mf w5 B F gt ct A (dw st (aI aB A ta tb).2) S2 Dk ai/\Yy aB S (ta.nodes++tb.nodes) (aI aB A ta tb).1 S2 W2 m/\gz Dk m/\(∀p,p∈W2->gz Dk p.2)/\(∀y,y∉ta.nodes++tb.nodes->Dk y=rk y)/\ae [B.ba,B.br] wr w5) (λ_ i _=>(intOf i+1).toNat)
    case atStart=>exact⟨S1,W,[],m0,rk,σ,by rw[e9],by rw[Zw.out],HM.out,HU.out.1,HU.out.2.1,HU.out.2.2.2,λ_ _=>rfl,ae.refl _ _⟩
    case round=>
     obtain⟨S2,W2,Q,m,Dk,rfl,rfl,rfl,L,hU,r1,r2,r3,C⟩:=hrel;rename World=>w5;rcases List.eq_nil_or_concat W2 with rfl|⟨s,⟨x,l⟩,rfl⟩
     .have e0:=hU.res;simp only[wU] at e0;simp only[List.length_nil];go_wp2;go_ret;rw[e0];exact⟨rfl,(HUP.out.mono σ).trans (C.mono σ),S2,Dk,L,hU.isM,r1,λy M=>⟨hU.far y M,r3 y M⟩⟩
     .have J:=hU.perm;simp only[List.concat_eq_append] at *;rw[rR,ϋ] at J;have DR:∀q,q∈(x::l.nodes)++m.nodes->q<A.cs.length:=λq Z=>n.out q (J.mem_iff.1 (List.mem_append_right _ Z));have j:((x::l.nodes)++m.nodes).Nodup:=(θ.1 (J.nodup_iff.2 HX.out)).2.1;have hxA:=DR x σ;obtain⟨g,cap,ee,hI,hg⟩:=IZ.jd (l:=(s++[(x,l)]++Q).map λp=>(p.1:Int)) (by rw[ϐ,Zw.out];exact au HO.out C (λk hk=>by have:=Zf.out k hk;simp;omega)) ζ;rw[ϐ,Zw.out] at ee
      injection ee with ee1 ee2 ee3
      subst ee1 ee3;have dz:=hI.cell s.length σ;rw[show(((s++[(x,l)]++Q).map λp=>(p.1:Int)).getD s.length 0)=(x:Int) by simp[φ]] at dz;have h0:=L.h0;have I:=L.h1;have xO:=χ L;have RY:=χ hU;have d:=χ (ψ r1 (ψ r2 r3));have Lb:=χ (ψ DR j);have hTx:=hU.way (x,l) σ;have T:=χ hTx;have HPX:=χ J;have hil:((s++[(x,l)]).length:Int)-1=s.length:=σ;rw[hil];have hi0:((s.length:Int)≥0):=ω;have hWn:s.length+1+Q.length=n0:=by have:=Zw.out;simp at this;omega
      have hW3:s.length<=65536:=ω;clear L hU r1 r2 r3 DR j hTx J hil hI ee2
      by_cases hm:m=.nil
      .subst hm;simp only[BT.root]
       go_wp2_with fail
       have AY:dL S2 (-1) x (.node x l .nil):=T.out;refine(sQ xO.out AY (d.out.2.1 (x,l) σ) d.out.1 (by simpa[BT.nodes] using Lb.out.2) (λq Z=>Lb.out.1 q (by simpa[BT.nodes] using Z))).mono ?_;rintro e w7 ⟨rfl,lT,S3,V6,K8,XA,Yc,u,_,v⟩;have HM7:=χ K8;have K:=χ (ψ XA (ψ Yc (ψ u v)));have HU7:=χ (C.trans lT);clear K8 XA Yc u v C lT T h0 I dz;go_wp2
       go_roundw
       case rel=>
        refine⟨S3,s,(x,l)::Q,aB x l .nil,V6,σ,congrArg (Value.int .i64) (jM x l .nil).symm,by go_num,HM7.out,RY.out.turn mQ HX.out K.out.1 (λy I _ _=>K.out.2.2.1 y I),K.out.2.1,?_,?_,HU7.out⟩
        .exact El RY.out HX.out K.out.2.2.2 (λp hp=>d.out.2.1 p (List.mem_append_left _ hp))
        .exact λy M=>(K.out.2.2.2 y (λe=>M (by rw[e];exact HPX.out.mem_iff.1 σ))).trans (d.out.2.2 y M)
       case measure=>simp[intOf]
      .obtain⟨mr,E⟩:∃mr:Nat,m.root=mr:=⟨_,BT.zo hm⟩;have U:=(cB hm).1;rw[E,π] at U;have AY:dL S2 (-1) x (.node x l .nil):=T.out;have hTm:=RY.out.isM;have hur:S2.u mr=-1:=by
        cases m with
        |nil=>exact absurd rfl hm
        |node q a b=>
         have e:q=mr:=by have e':(q:Int)=mr:=E;omega
         subst e;exact hTm.2.1
       have j:=Lb.out.2;have X:x≠mr:=λe=>by
        rw[θ] at j;exact j.2.2 x σ mr U e
       obtain⟨Dl,XJ⟩:=EG (m:=m) AY hTm hm (by simpa[BT.nodes] using j);rw[E] at Dl XJ;have HT3:=χ (ψ Dl (ψ hm XJ));have kh:=λW (hW:ae [] w5 W)=>BF B.bt B.ba A.cs.length S2 x mr true W ((xO.out.ag hW).trees) hxA (Lb.out.1 mr (List.mem_append_right _ U)) X hur AY.2.2.2;rw[E];have hz4:((mr:Int) != -1)=true:=σ;have rr1:∀W,ae [B.ba] w5 W->W.cell? ⟨B.n0,1,none⟩=some (B.bt:V):=λW hW=>hW.kept I (by have:=hs.out;simp;omega);have rr2:∀W,ae [B.ba] w5 W->W.cell? ⟨g,s.length,none⟩=some ((x:Int):V):=λW hW=>hW.kept dz ζ
       clear AY hTm hur j Dl XJ hm E h0 I dz U
       go_wp2_with fail
       have DV:(s.length:Int)<(n0:Int):=ω
       go_region_held3 (ae [B.ba] w5) (exact ν)
        (((with_reducible refine(kh _ β).mono ?_);rintro e w6 ⟨rfl,SS,iD⟩;(have Y5:ae [B.ba] w5 w6:=ν)))
       have dz6:=rr2 w6 Y5;have x9:=χ (xO.out.iT Y5 SS);clear rr1 rr2 kh iD SS
       go_wp2_with fail
       refine(sQ x9.out HT3.out.1 (d.out.2.1 (x,l) σ) d.out.1 (by simpa[BT.nodes] using Lb.out.2) (λq Z=>Lb.out.1 q (by simpa[BT.nodes] using Z))).mono ?_;rintro e w7 ⟨rfl,lT,S3,V6,K8,XA,Yc,u,_,v⟩;have HM7:=χ K8;have K:=χ (ψ XA (ψ Yc (ψ u v)));have HU7:=χ (C.trans ((Y5.mono σ).trans lT));clear K8 XA Yc u v C lT T dz6 Y5;go_wp2
       go_roundw
       case rel=>
        refine⟨S3,s,(x,l)::Q,aB x l m,V6,σ,by rw[jM],by go_num,HM7.out,RY.out.turn mQ HX.out K.out.1 (λy I _ h3=>?_),K.out.2.1,?_,?_,HU7.out⟩
        .have f:=HT3.out.2.2 y I h3;have a2:=K.out.2.2.1 y I;exact⟨a2.1.trans f.1,a2.2.1.trans f.2.1,a2.2.2.trans f.2.2⟩
        .exact El RY.out HX.out K.out.2.2.2 (λp hp=>d.out.2.1 p (List.mem_append_left _ hp))
        .exact λy M=>(K.out.2.2.2 y (λe=>M (by rw[e];exact HPX.out.mem_iff.1 σ))).trans (d.out.2.2 y M)
       case measure=>simp[intOf]
  .obtain⟨x,l,r,rfl⟩:∃x l r,f=.node x l r:=by
    cases f with
    |nil=>exact absurd (Α rfl) t
    |node x l r=>exact⟨x,l,r,rfl⟩
   obtain⟨y,l',r',rfl⟩:∃x l r,P=.node x l r:=by
    cases P with
    |nil=>exact absurd (Β rfl) t
    |node x l r=>exact⟨x,l,r,rfl⟩
   clear t;have Y:∀z,z∈(BT.node x l r).nodes++(BT.node y l' r').nodes->z∈ta.nodes++tb.nodes:=λz hz=>HD.out.perm.mem_iff.1 (List.mem_append_right _ hz);have X:=Y x (by simp[BT.nodes]);have hym:=Y y (by simp[BT.nodes]);have hWl:W.length+2<=(ta.nodes++tb.nodes).length:=by simp only[BT.nodes,Ω,υ] at H ⊢;omega
   have HMX:=χ Y;have hxb:((x:Int) != -1)=true:=σ;have hyb:((y:Int) != -1)=true:=σ;clear Y H;have kA:=fA HM.out.cells y x (QV.out y hym) (QV.out x X);obtain⟨sw,R⟩:∃sw,decide (dA A y x)=sw:=⟨_,rfl⟩;rw[R] at kA;have KEY:∃(z:Nat) (lz rz o:BT),z=(if sw then y else x)/\Down aB A S ta tb (Be S1 z rz) (W++[(z,lz)]) rz o/\dL S1 (-1) z (.node z lz rz)/\gz rk lz/\gz rk rz/\gz rk o/\z<A.cs.length/\(∀q,q∈rz.nodes->q<A.cs.length)/\o.root=(if sw then(x:Int) else(y:Int)):=by
    cases sw with
    |true=>
     exact⟨y,l',r',.node x l r,rfl,HD.out.takeB HX.out (ϟ R),HD.out.isB,G.out.2.1.2.1,G.out.2.1.2.2,G.out.1,n.out y hym,λq Z=>n.out q (HMX.out q (by simp[BT.nodes,Z])),rfl⟩
    |false=>
     exact⟨x,l,r,.node y l' r',rfl,HD.out.takeA HX.out (of_decide_eq_false R),HD.out.isA,G.out.1.2.1,G.out.1.2.2,G.out.2.1,n.out x X,λq Z=>n.out q (HMX.out q (by simp[BT.nodes,Z])),rfl⟩
   obtain⟨z,lz,rz,o,ez,hD2,hTz,q1,q2,q3,hz,hrz,eo⟩:=KEY;have HD2:=χ hD2;have HT:=χ hTz;have HQ:=χ (ψ q1 (ψ q2 (ψ q3 hrz)));clear hD2 hTz q1 q2 q3 hrz R;simp only[BT.root];cases sw
   all_goals
    simp only[if_true,if_false,Ϟ] at ez eo;subst ez
    go_wp2_with fail
    refine kA.mono ?_;rintro e w1 ⟨rfl,gK,N⟩;have hM1:=χ (HM.out.cK (N.mono (by simp[HM.out.cF])) gK (λx hx=>Α hx) rfl rfl);have hss:dw (dw st W.length) 1=dw st (W.length+1):=je _ _ _;rw[hss] at hM1;have ho1:=au HO.out N (λk hk=>by have:=Zf.out k hk;simp;omega);clear h0 I kA hss;have Zm:=χ (ψ C N);clear C N gK;have HGB:Hid (∀g,g∈(Value.slice a5 W.length c5).ownBlock.toList->g∉B.blk F gt):=λg hg hb=>by
     have I:=Zf.out g (Option.mem_toList.1 hg);have h2:=HBL.out g hb;omega
    have hsz1:w.heap.size<=w1.heap.size:=(Zm.out.1.trans (Zm.out.2.mono σ)).size
    go_wp2_with (first
     |((at_builtin;refine bD rfl _ _ 77 rfl w.heap.size 3 (.int .i64 0) 1 8 underlying77 gN rfl δ _ _ _ rfl (ho1) [.int .i64 (z:Int)] rfl (by simp[Value.oneCell']) (by first|rfl|(rw[Κ];rfl)) μ ω (ω) ?_;intro v2 w2 ho2 hu2 oq);(have hM2:=χ (hM1.out.upd hu2 HGB.out));(have k12:=hM2.out.h1);(have kr:=LZ hM2.out HT.out hz))
     |((with_reducible refine kr.mono ?_);rintro e w3 ⟨rfl,O⟩;(have k13:=O.was k12);(have jH:=χ (hM2.out.ag O));(have kc:=Qz jH.out HT.out hz HQ.out.2.2.2))
     |((with_reducible refine aP (pF _ _) ?_))
     | ((with_reducible refine kc.mono ?_);rintro e w4 ⟨⟨v4,rfl⟩,uD,iK⟩))
    obtain⟨a6,c6,rfl,hc6⟩:=bz ho2;have acB:∀k,(Value.slice a6 (W.length+1) c6).ownBlock=some k->w.heap.size<=k:=λk hk=>(ho2.lt k hk).1;refine⟨⟨_,W++[(z,lz)],rz,o,rfl,congrArg (Value.int .i64) eo.symm,?_,?_,HD2.out,HQ.out.2.1,HQ.out.2.2.1,?_,?_⟩,?_⟩
    .rw[Ed,υ,List.length_singleton];exact au (au ho2 O σ) iK (λk hk=>by have:=acB k hk;simp;omega)
    .rw[υ,List.length_singleton];exact uD
    .intro p hp;rcases τ.1 hp with hp|hp
     .exact G.out.2.2 p hp
     .simp only[ϒ] at hp;subst hp;exact HQ.out.1
    .have v1:ae [B.c,B.ba] w w1:=Zm.out.1.trans (Zm.out.2.mono σ);have v2:ae [B.c,B.ba] w w2:=v1.joined hu2 (λg hg=>Β (Zf.out g (Option.mem_toList.1 hg)));exact(v2.trans (O.mono σ)).trans (iK.mono σ)
    .show(ta.nodes++tb.nodes).length-(W.length+1)<(ta.nodes++tb.nodes).length-W.length
     omega
end
structure zJ(S0:TS)(Qg:Nat->Nat)(T:BT)(X:List Nat)(S:TS)(rk:Nat->Nat)(P:List Fr)(was x:Nat)(l r:BT):Prop where
 Az:dL S (-1) (ak P (.node x l r)).root (ak P (.node x l r))
 perm:(ak P (.node x l r)).nodes.Perm X
 rl:gz rk l
 rr:gz rk r
 rx:rk x=was
 rP:Xm rk P was
 far:∀y,y∉X->S0.at S y/\rk y=Qg y
 res:lL P was x l r=T
structure wK(S0:TS)(Qg:Nat->Nat)(T:BT)(X:List Nat)(S:TS)(rk:Nat->Nat):Prop where
 Az:dL S (-1) T.root T
 isR:gz rk T
 far:∀y,y∉X->S0.at S y/\rk y=Qg y
section
variable{S0 S S2:TS}{Qg rk Dk:Nat->Nat}{T:BT}{X:List Nat}{P:List Fr}{was x:Nat}{l r:BT}
def zJ.parts(h:zJ S0 Qg T X S rk P was x l r)(c:X.Nodup):x∈X/\(BT.node x l r).nodes.Nodup/\(∀y,y∈(BT.node x l r).nodes->y∈X)/\(∀y,y∈ed P->y≠x/\y∈X)/\(ed P).Nodup:=by
 have hp:=(aV P (.node x l r)).symm.trans h.perm;have a:=hp.nodup_iff.2 c;rw[θ] at a;refine⟨hp.mem_iff.1 (by simp[BT.nodes]),a.1,λy b=>hp.mem_iff.1 (List.mem_append_left _ b),λy b=>⟨λe=>a.2.2 x (by simp[BT.nodes]) y b e.symm,hp.mem_iff.1 (List.mem_append_right _ b)⟩,a.2.1⟩
def zJ.settled(h:zJ S0 Qg T X S rk P was x l r)(i:X.Nodup)(j:dL S2 (Eu P) x (aB x l r))(hs:∀y,y≠x->S.at S2 y)(g:∀y,y≠x->Dk y=rk y):
  dL S2 (-1) (ak P (aB x l r)).root (ak P (aB x l r))/\Xm Dk P was/\(∀y,y∉X->S0.at S2 y/\Dk y=Qg y)/\(ak P (aB x l r)).nodes.Perm X:=by
 obtain⟨k,m,n,f,o⟩:=h.parts i;refine⟨(fe _ _).2 ⟨by rw[jM];exact j,?_⟩,h.rP.frame (λy a=>g y (f y a).1),λy a=>?_,?_⟩
 .have:=((fe _ _).1 h.Az).2;rw[jM];exact this.frame (λy a=>hs y (f y a).1)
 .have b:y≠x:=λe=>a (by grind);have c:=h.far y a;have d:=hs y b;exact⟨⟨d.1.trans c.1.1,d.2.1.trans c.1.2.1,d.2.2.trans c.1.2.2⟩,(g y b).trans c.2⟩
 .exact(aV P _).trans (((lU x l r).append_right _).trans ((aV P (.node x l r)).symm.trans h.perm))
def zJ.stay(h:zJ S0 Qg T X S rk P was x l r)(g:X.Nodup)(i:dL S2 (Eu P) x (aB x l r))(a:gz Dk (aB x l r))(hs:∀y,y≠x->S.at S2 y)(j:∀y,y≠x->Dk y=rk y)
  (e:(aB x l r).rank=was):wK S0 Qg T X S2 Dk:=by
 obtain⟨b,k,c,m⟩:=h.settled g i hs j;have d:T=ak P (aB x l r):=by
  rw[←h.res];cases P with
  |nil=>rfl
  |cons f P=>unfold lL;rw[Δ e]
 rw[d];exact⟨b,(AU _ _).2 ⟨a,by grind⟩,c⟩
def zJ.top(h:zJ S0 Qg T X S rk [] was x l r)(e:X.Nodup)(f:dL S2 (Eu []) x (aB x l r))(a:gz Dk (aB x l r))(hs:∀y,y≠x->S.at S2 y)(g:∀y,y≠x->Dk y=rk y):
  wK S0 Qg T X S2 Dk:=by
 obtain⟨b,i,c,j⟩:=h.settled e f hs g;have d:T=ak [] (aB x l r):=by rw[←h.res];rfl
 rw[d];exact⟨b,a,c⟩
def zJ.up{f:Fr}(h:zJ S0 Qg T X S rk (f::P) was x l r)(o:X.Nodup)(p:dL S2 (Eu (f::P)) x (aB x l r))(i:gz Dk (aB x l r))(hs:∀y,y≠x->S.at S2 y)(q:∀y,y≠x->Dk y=rk y)
  (e:(aB x l r).rank≠was):∃m n,zJ S0 Qg T X S2 Dk P (lZ f was) f.1 m n:=by
 obtain⟨d,c,k,g⟩:=h.settled o p hs q;have a:=h.res;unfold lL at a;rw[Γ e] at a;unfold ak at d g
 by_cases b:f.2.1=true
 .rw[Δ b] at a;have j:bN f (aB x l r)=.node f.1 f.2.2 (aB x l r):=by unfold bN;rw[Δ b]
  rw[j] at d g;exact⟨_,_,d,g,c.1,i,c.2.1,c.2.2,k,a⟩
 .rw[Γ b] at a;have j:bN f (aB x l r)=.node f.1 (aB x l r) f.2.2:=by unfold bN;rw[Γ b]
  rw[j] at d g;exact⟨_,_,d,g,i,c.1,c.2.1,c.2.2,k,a⟩
end
def Ov:∀{P:List Fr},(ed P).Nodup->(P.map (·.1)).Nodup/\∀y,y∈P.map (·.1)->y∈ed P
 | [],_=>⟨Ϡ,λy hy=>by cases hy⟩
 |f::P,h=>by
  simp only[ed,Ζ,τ,not_or,θ] at h;obtain⟨h1,h2⟩:=Ov (P:=P) h.2.2.1;refine⟨Ζ.2 ⟨λhm=>h.1.2 (h2 _ hm),h1⟩,λy hy=>?_⟩;simp only[List.map_cons,ρ] at hy;rcases hy with rfl|hy
  .simp[ed]
  .simp[ed,h2 y hy]
def Nq{L done rest:List Nat}{x:Nat}(a:L.Nodup)(e:L=done++x::rest):L.idxOf x=done.length/\done.length<L.length:=by
 grind
section
variable{w:World}{B:LB}{F:List Nat}{gt ct:Nat}{A:NS}{st:Nat}{S:TS}{rk:Nat->Nat}{ai:List Int}
def Ee(h:mf w B F gt ct A st S rk ai){P:List Fr}{was x:Nat}{l r:BT}(g:zJ S rk (lL P was x l r) (ak P (.node x l r)).nodes S rk P was x l r)(hX:(ak P (.node x l r)).nodes.Nodup)
  (W:∀y,y∈(ak P (.node x l r)).nodes->y<A.cs.length):
  Calls prog 235 #[B.n0,(x:Int)] w λe w'=>e=.returned (.tuple #[])/\ae [B.ba,B.br] w w'/\
   ∃S' nN,mf w' B F gt ct A st S' nN ai/\wK S rk (lL P was x l r) (ak P (.node x l r)).nodes S' nN:=by
 generalize hT:lL P was x l r=T at *;generalize hXX:(ak P (.node x l r)).nodes=X at *;have hL:(x::P.map (·.1)).Nodup:=by
  obtain⟨p1,p2,p3,p4,p5⟩:=g.parts hX;obtain⟨q1,q2⟩:=Ov p5;exact Ζ.2 ⟨λhm=>(p4 x (q2 x hm)).1 rfl,q1⟩
 generalize U:x::P.map (·.1)=L at *;have HM0:=χ h;have MM:=χ g;have HX:=χ hX;have HL:=χ hL;have HLL:=χ U;have I:=χ W;clear h g hX hL W hT hXX U
 go_enter func235,ntmps235
 go_wp2
 go_loopw [1] (λa wr=>∃(t:TS) (d:Nat->Nat),mf wr B F gt ct A st t d ai/\ae [B.ba,B.br] w wr/\((∃(j:List Fr) (u b:Nat) (Q R:BT) (dn:List Nat),a=.int .i64 (b:Int)/\L=dn++b::j.map (·.1)/\zJ S rk T X t d j u b Q R)\/(a=.int .i64 (-1)/\wK S rk T X t d))) (λa _=>if intOf a=-1 then 0 else L.length-L.idxOf (intOf a).toNat)
 case atStart=>exact⟨S,rk,HM0.out,ae.refl _ _,Α ⟨P,was,x,l,r,[],rfl,HLL.out.symm,MM.out⟩⟩
 case round=>
  obtain⟨t,d,g,hu,hor⟩:=hrel;rename World=>w5;rcases hor with⟨j,u,b,Q,R,dn,rfl,hLe,hMe⟩|⟨rfl,hE⟩
  .have hxb:((b:Int) != -1)=true:=σ;obtain⟨p1,p2,p3,p4,p5⟩:=hMe.parts HX.out;have J:=I.out b p1;have h2:=g.h2;have d0:=g.ranks.cell b J;have ex:=hMe.rx;rw[ex] at d0;have m:=((fe _ _).1 hMe.Az).1;have ks:=sQ g (p:=Eu j) m hMe.rl hMe.rr p2 (λy hy=>I.out y (p3 y hy));have ME:=χ hMe;have i:=χ hLe;have K:t.u b=Eu j:=m.2.1;have M:=χ K;clear hMe p1 p2 p3 p4 p5 m g ex hLe K
   go_wp2_with fail
   refine ks.mono ?_;rintro e w7 ⟨rfl,lT,q,Y,s,XA,Yc,C,D,E⟩;have e7:Y b=(aB b Q R).rank:=by
    have:=Yc.root (by unfold aB;split<;>simp);rw[jM] at this;simpa using this
   have g2:=s.h2;have g1:=s.h1;have d7:=s.ranks.cell b J;rw[e7] at d7;have k:q.u b=Eu j:=D.trans M.out;have ku:=Xc B.bt B.ba A.cs.length q (b:Int) w7 s.trees;rw[show qV A.cs.length q (b:Int)=Eu j by unfold qV;rw[Δ ω];simpa using k] at ku;have n:=χ s;have c:=χ (ψ XA (ψ Yc (ψ C E)));have o:=χ (hu.trans lT);have H:∃G,(aB b Q R).rank=G:=⟨_,rfl⟩;obtain⟨G,H⟩:=H;rw[H] at d7;have N:=χ H;clear s XA Yc C E hu lT D k e7 ks h2 d0 H M
   by_cases he:G=u
   .have hb:((G:Int) == (u:Int))=true:=by rw[he];simp
    go_wp2;exact bodyPost_ret (v:=.tuple #[]) (by simp[results,results235,go_sem]) rfl ⟨rfl,o.out,q,Y,n.out,ME.out.stay HX.out c.out.1 c.out.2.1 c.out.2.2.1 c.out.2.2.2 (N.out.trans he)⟩
   .have hb:((G:Int) == (u:Int))=false:=ζ;have HNE:=χ (show(aB b Q R).rank≠u from λe=>he (N.out.symm.trans e));generalize hz:Eu j=z at *;clear he
    go_wp2_with (first
     |((with_reducible refine ku.mono ?_);rintro e w8 ⟨rfl,Z,rfl⟩)
     | ((with_reducible refine aP (pF _ _) ?_)))
    cases j with
    |nil=>
     subst hz;refine⟨⟨q,Y,n.out.ag ((ae.refl _ _).drewN Z),o.out.drewN Z,Β ⟨rfl,ME.out.top HX.out c.out.1 c.out.2.1 c.out.2.2.1 c.out.2.2.2⟩⟩,?_⟩;have hi:=Nq HL.out i.out
     show(if((-1:Int))=-1 then 0 else _)<(if((b:Int))=-1 then 0 else L.length-L.idxOf ((b:Int)).toNat)
     rw[Δ rfl,Γ ω,π,hi.1];omega
    |cons f P2=>
     subst hz;obtain⟨l2,r2,hM2⟩:=ME.out.up HX.out c.out.1 c.out.2.1 c.out.2.2.1 c.out.2.2.2 HNE.out;refine⟨⟨q,Y,n.out.ag ((ae.refl _ _).drewN Z),o.out.drewN Z,Α ⟨P2,_,f.1,l2,r2,dn++[b],rfl,by rw[i.out];simp,hM2⟩⟩,?_⟩;have hi:=Nq HL.out i.out;have O:=Nq (done:=dn++[b]) (x:=f.1) (rest:=P2.map (·.1)) HL.out (by rw[i.out];simp)
     show(if((f.1:Int))=-1 then 0 else L.length-L.idxOf ((f.1:Int)).toNat)<(if((b:Int))=-1 then 0 else L.length-L.idxOf ((b:Int)).toNat)
     rw[Γ ω,Γ ω,π,π,hi.1,O.1];rw[υ,List.length_singleton] at O ⊢;omega
  .go_wp2
   (first|go_end0|go_ret)
   exact⟨rfl,hu,t,d,g,hE⟩
