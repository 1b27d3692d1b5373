/-
  Lemmas.
-/
import Derived.Test.YtnpdakpagnpanaaGreatE02
set_option linter.all false
set_option maxHeartbeats 8000000
set_option maxRecDepth 10000
namespace Go.Proofs.YtnpdakpagnpanaaGreat
open Tryz
open Go Go.RowKit
def qX.make{l:List Int}{rt dp:Nat->Nat}(h:qX l rt dp)(f:l.length<=65536):qX (l++[(l.length:Int)]) (λi=>if i=l.length then i else rt i) dp:=by
 have e:=h.len;have g1:∀i,i<l.length->(l++[(l.length:Int)]).getD i 0=l.getD i 0:=λi c=>by simp[φ,Ρ c]
 have g2:(l++[(l.length:Int)]).getD l.length 0=l.length:=by simp[φ]
 refine⟨σ,ζ,λi a b=>?_,λi a b=>?_,λi a b=>?_,λi a b=>?_⟩
 all_goals
  simp only[υ,Ω,List.length_nil] at b ⊢;rcases(ω:i<l.length\/i=l.length) with c|c
 .rw[g1 i c];have:=h.xP i a c;omega
 .rw[c,g2];omega
 .have:=h.xP i a c;rw[g1 i c,Γ (show ¬(l.getD i 0).toNat=l.length by omega),Γ ω];exact h.up i a c
 .rw[c,g2];simp
 .rw[g1 i c,Γ (show ¬i=l.length by omega)];exact h.top i a c
 .intro _;rw[Δ c]
 .rw[g1 i c];exact h.low i a c
 .rw[c,g2];intro d;exact absurd rfl d
def jg{w:World}{c st:Nat}{F:List Nat}{A:NS}(h:aD w c F A st):
  Calls prog 140 #[c] w λe w'=>e=.returned (dF A:Int)/\Goes F w w' (λF'=>aD w' c F' (aO A) st):=by
 have o:=h;obtain⟨ca,nm,mb,g,cap,l,rt,dp,raw,h,rfl⟩:=h;have L:=h.c2;have a:=h.hlen;have p:=h.PK.len;have z:=h.PK.Sb;have hs:=h.sep;unfold dF aO
 by_cases b:l.length=65537
 .have k:=U8 nm g cap l w h.X7 b;rw[Δ ω,Δ ω];have B:=χ o;clear h o a b
  go_enter func140,ntmps140
  go_wp2_with ((with_reducible refine k.mono ?_);rintro e v ⟨rfl,d⟩)
  go_ret;exact⟨rfl,Goes.stay (B.out.ag d) (d.mono σ)⟩
 .have k:=PN nm g cap l w h.X7 p ω;rw[Γ ω,Γ ω,a];have H:=χ h;have q:=χ a;clear h o a
  go_enter func140,ntmps140
  go_wp2_with ((with_reducible refine k.mono ?_);rintro e v ⟨f,j,rfl,y,d,t⟩)
  go_ret;have h:=H.out;have M:=h.head.lt;have C:=h.row.lt;have D:=h.many.lt;have u:c≠f/\ca≠f/\mb≠f:=by rcases t with rfl|t;exact⟨ω,ω,ω⟩;exact⟨ω,ω,ω⟩
  have r:(NS.mk (A.hs++[true]) A.cs).Ok:=by
   have:=VF h.ok;unfold aO at this;rwa[Γ (by have:=q.out;omega)] at this
  refine⟨rfl,[c,ca,nm,mb,f],⟨ca,nm,mb,f,j,l++[(l.length:Int)],λi=>if i=l.length then i else rt i,dp,raw,?_,rfl⟩,d.mono ι,λx s=>by simp at s ⊢;omega⟩;refine⟨h.head.upd d ι,h.row.upd d ι,y,h.many.upd d ι,h.PK.make ω,r,h.oG,λx s=>?_,by simp[q.out],λi E G=>?_,ω⟩
  .rcases h.rel x s with I|⟨J,N,K⟩
   .exact Α I
   .refine Β ⟨J,ζ,?_⟩;rw[Γ ω];exact K
  .simp only[υ,Ω,List.length_nil] at G;have m:=q.out;rcases(ω:i<l.length\/i=l.length) with n|n
   .have:=h.has i E n;simp only[φ] at this ⊢;rw[Ρ ω,Ρ n];exact this
   .subst n;simp only[φ];rw[←m,ϊ (Θ _),ϊ ω];simp[m]
def qX.join{l:List Int}{rt dp:Nat->Nat}(h:qX l rt dp){a b:Nat}(m:1<=a)(d:a<l.length)(n:1<=b)(f:b<l.length)(g:l.getD a 0=a)(j:l.getD b 0=b)(o:a≠b):
  qX (l.set b (a:Int)) (λi=>if rt i=b then a else rt i) (λi=>dp i+if rt i=b then dp a+1 else 0):=by
 have r:=h.top a m d g;have s:=h.top b n f j;refine⟨by grind,by simp;exact h.Sb,λi p q=>?_,λi p q=>?_,λi p q=>?_,λi p q=>?_⟩
 all_goals
  rw[Ι] at q;rw[Cb]
  by_cases c:i=b
 .grind
 .rw[Γ (λe=>c e.1),Ι];exact h.xP i p q
 .grind
 .have:=h.up i p q
  grind
 .grind
 .rw[Γ (λe=>c e.1)];intro e;have:=h.top i p q e
  grind
 .grind
 .rw[Γ (λe=>c e.1)];intro e;have k:=h.up i p q;have t:=h.low i p q e;simp only[k];omega
def Ng{A:NS}(e:A.Ok){a b:Int}(c:fQ A a b=true)(q:Int):
  fJ (az A a b) q=if 0<cZ A b then(if q=b then none else if q=a then some ((cZ A a:Int)+(cZ A b:Int)) else fJ A q) else fJ A q:=by
 have d:=((dI _ _ _).1 c).2.2;have:=Fp e c q;unfold fJ
 grind
def CM.join{w:World}{c ca nm mb g cap:Nat}{l:List Int}{rt dp:Nat->Nat}{raw:Nat->Cl}{A:NS}{st:Nat}(h:CM w c ca nm mb g cap l rt dp raw A st){j:World}{a b:Nat}(p:fQ A a b=true)
  (u:jK j nm g cap (l.set b (a:Int))) (v:fK j mb (fJ (az A a b))) (t:ae [nm,g,mb] w j):
  CM j c ca nm mb g cap (l.set b (a:Int)) (λi=>if rt i=b then a else rt i) (λi=>dp i+if rt i=b then dp a+1 else 0) raw (az A a b) st:=by
 have d:=(dI _ _ _).1 p;have k:=h.Na d.1;have m:=h.Na d.2.1;have n:a≠b:=λe=>d.2.2 (by rw[e]);have s:=h.sep;have q:(az A (a:Int) (b:Int)).hs=A.hs.set b false:=by unfold az;rw[Δ p];simp
 refine⟨?_,by rw[eU];exact h.row.upd t ι,u,v,h.PK.join k.1 k.2.1 m.1 m.2.1 k.2.2.2 m.2.2.2 n,VY h.ok _ _,h.oG,λx r=>?_,by rw[q];simp;exact h.hlen,λi o f=>?_,s⟩
 .rw[eU];exact h.head.upd t ι
 .rw[eU] at r;rw[yU p,Ι];rcases h.rel x r with⟨o,f⟩|⟨o,f,h3⟩
  .grind
  .grind
 .rw[Ι] at f;rw[q,Cb];have:=h.has i o f
  grind
def mO{w:World}{c st:Nat}{F:List Nat}{A:NS}(h:aD w c F A st)(a b:Nat)(G:fQ A a b=true):
  Calls prog 141 #[c,(a:Int),(b:Int)] w λe w'=>e=.returned true/\aD w' c F (az A a b) st/\ae F w w':=by
 have z:=h.lt;have K:=Bb h.ok (a:Int);have L:=Bb h.ok (b:Int);have hA1:=h.ok.h1;obtain⟨ca,nm,mb,g,cap,l,rt,dp,raw,h,rfl⟩:=h;have f:=(dI _ _ _).1 G;have ha:=(aF _ _).1 f.1;have hb:=(aF _ _).1 f.2.1;have M:a≠b:=λe=>f.2.2 (by rw[e]);have c2:=h.c2;have W:=h.c3;have s:=h.sep;have k:=Su nm g cap l a b w h.X7 h.PK.Sb (by rw[h.zt];exact f.1) (by rw[h.zt];exact f.2.1) M;have N:=z c σ
 have B:Hid (∀j t:World,jK j nm g cap (l.set b (a:Int))->ae [nm,g] w j->ae [mb] j t->fK t mb (fJ (az A a b))->aD t c [c,ca,nm,mb,g] (az A a b) st/\ae [c,ca,nm,mb,g] w t):=λj t y S r hm=>by
  have n:ae [nm,g,mb] w t:=(S.mono ι).joined r (λx Y=>Α (by simp at Y;simp[Y]));exact⟨⟨ca,nm,mb,g,cap,_,_,_,raw,h.join G (y.upd r ι ι) hm n,rfl⟩,n.mono ι⟩
 have D:Hid (∀q,fJ (az A a b) q=if 0<cZ A (b:Int) then(if q=(b:Int) then none else if q=(a:Int) then some ((cZ A (a:Int):Int)+(cZ A (b:Int):Int)) else fJ A q) else fJ A q):=λq=>Ng h.ok G q;have H:=χ h;have ga:1<=a/\a<=65536:=ω;have gb:1<=b/\b<=65536:=ω;clear h z G f ha hb;obtain⟨U,u⟩:∃m:Nat,m=cZ A (a:Int):=⟨_,rfl⟩;obtain⟨d,v⟩:∃m:Nat,m=cZ A (b:Int):=⟨_,rfl⟩;have O:=χ u;have C:=χ v;rw[←u] at K D;rw[←v] at L D;clear u v
 by_cases E:0<d
 .have P:=χ E;have Q:(0:Int)<(d:Int):=ω;clear E
  go_enter func141,ntmps141
  go_wp2_with (first
   |(((with_reducible refine k.mono ?_));rintro e j ⟨rfl,y,n⟩;(have i:=H.out.many.upd n ι);(have X:j.cell? ⟨c,3,none⟩=some (.map (some mb)):=(n.cell N ι).trans W))
   |(at_lookup;refine iG (o:=⟨some 21,_,_,_,_,_⟩) (by rfl) _ _ (by rfl) mb (fJ A) (by rfl) i (b:Int) (by rfl) ω (d:Int) ((mI _ _).trans (by rw[C.out])) ?_)
   |(at_lookup;refine iG (o:=⟨some 29,_,_,_,_,_⟩) (by rfl) _ _ (by rfl) mb (fJ A) (by rfl) i (a:Int) (by rfl) ω (U:Int) ((mI _ _).trans (by rw[O.out])) ?_)
   |(at_mapUpdate;refine lG rfl _ _ _ rfl mb (fJ A) rfl i (a:Int) ((U:Int)+(d:Int)) rfl rfl ω ω ?_;intro t I r;(have q2:t.cell? ⟨c,3,none⟩=some (.map (some mb)):=(r.cell (p:=⟨c,3,none⟩) (Ψ N n.size) ι).trans X))
   | (at_delete;refine nL rfl _ _ rfl mb _ rfl I (b:Int) rfl ω ?_;intro T Z J))
  go_ret;have R:fK T mb (fJ (az A a b)):=fK.ext Z (λq=>by rw[D.out q,Δ P.out]);exact⟨rfl,B.out j T y n (r.trans J) R⟩
 .have P:=χ E;have Q:¬(0:Int)<(d:Int):=ω;clear E
  go_enter func141,ntmps141
  go_wp2_with (first
   |(((with_reducible refine k.mono ?_));rintro e j ⟨rfl,y,n⟩;(have i:=H.out.many.upd n ι);(have X:j.cell? ⟨c,3,none⟩=some (.map (some mb)):=(n.cell N ι).trans W))
   | (at_lookup;refine iG (o:=⟨some 21,_,_,_,_,_⟩) (by rfl) _ _ (by rfl) mb (fJ A) (by rfl) i (b:Int) (by rfl) ω (d:Int) ((mI _ _).trans (by rw [C.out])) ?_))
  go_ret;have R:fK j mb (fJ (az A a b)):=fK.ext i (λq=>by rw[D.out q,Γ P.out]);exact⟨rfl,B.out j j y n (ae.refl _ _) R⟩
def MC(n j:Nat)(a:j<n*3):(madeCells #[Value.int .i64 0,(0:Int),.int .u64 0] (n*3)).toList.getD j undef=if j % 3=0 then .int .i64 0 else if j % 3=1 then .int .i64 0 else .int .u64 0:=by
 rw[φ,ε (by simp[size_madeCells];omega)];simp only[Option.getD_some,madeCells,Array.getElem_toList,Array.getElem_map,Array.getElem_range]
 grind
def Vn:(prog.info? 260).map (λi=>(i.zero,i.size,i.bytes))=some (some (.agg #[(0:Int),(0:Int),.int .u64 0]),3,24):=by kernel_rfl
def pR(n:Nat)(w:World)(h:n<=65536):
  Calls prog 84 #[(n:Int)] w λe w'=>∃c F,e=.returned (.tuple #[(c:Nat),(0:Int)])/\aD w' c F (NS.new n) 0/\ae [] w w'/\∀x,x∈F->w.heap.size<=x:=by
 have y:=@run_makeMap prog
 go_enter func84,ntmps84
 go_wp2_with (first
  |(((with_reducible refine(Ut _).mono ?_));rintro e q ⟨nm,g,rfl,s,l,u,v⟩)
  | (at_make;refine wpList_make_row rfl _ 222 rfl 260 (.agg #[(0:Int),(0:Int),.int .u64 0]) 3 24 underlying222 Vn n rfl ω μ ?_;intro a m o))
 go_ret2;have f:ae [] a ((a.alloc (.map #[] 0)).alloc (.cells #[(0:Int),.slice (some q.heap.size) n n,(nm:Nat),.map (some a.heap.size)] 226)):=β;have t:=eO (a.alloc (.map #[] 0)) [.int .i64 0,.slice (some q.heap.size) n n,.pointer (some (nm:Nat)),.map (some a.heap.size)] 226;rw[Κ] at t;have C:=s.lt;have D:=m.lt;have E:=l.size;have p:(NS.new n).cs.length=n:=by simp[NS.new]
 refine⟨a.heap.size+1,[a.heap.size+1,q.heap.size,nm,a.heap.size,g],rfl,⟨q.heap.size,nm,a.heap.size,g,1,[0],λi=>i,λ_=>0,λ_=>Cl.z,?_,rfl⟩,(l.trans o).trans f,λx A=>by simp at A;omega⟩;refine⟨?_,?_,(s.upd o σ σ).upd f σ σ,((fK.made a).upd ((ae.refl [] _).alloc _) σ).ext (λk=>?_),?_,NS.Nw n h,ω,λx _=>Α ⟨rfl,NS.uK n x⟩,rfl,λi d b=>by simp at b;omega,ω⟩
 .rw[p];exact t
 .rw[p];refine(m.upd f σ).ext (λj B=>?_);have z:(Value.agg #[(0:Int),(0:Int),.int .u64 0]).cells=#[.int .i64 0,.int .i64 0,.int .u64 0]:=rfl;rw[z];unfold iw Cl.z;have:=MC n j B;rw[this]
 .unfold fJ;have:cZ (NS.new n) k=0:=by
   rcases Nat.eq_zero_or_pos (cZ (NS.new n) k) with r|r
   .exact r
   .obtain⟨x,_,d,b⟩:=fO.1 r;rw[NS.uK] at d;have:(0:Int)=k:=d;omega
  rw[this];rfl
 .exact⟨σ,σ,λi d b=>by simp at b;omega,λi d b=>by simp at b;omega,λi d b=>by simp at b;omega,λi d b=>by simp at b;omega⟩
def jU{A:NS}{h:Int}{m:Nat}(c:dB A h=some m):0<h/\m<A.cs.length/\(A.c m).i=h/\bY A m=true:=by
 by_cases b:0<h
 .have a:=(jB b).1 c;exact⟨b,a.1,a.2.1,(aj _ _).2 ⟨a.1,by rw[a.2.1];exact b⟩⟩
 .rw[rX b] at c;cases c
def iQ{A:NS}{h:Int}:dB A h=none↔cZ A h=0:=by
 by_cases a:0<h
 .exact jV a
 .rw[rX a,TN a];simp
def lenOf:Value->Nat | .slice _ l _=>l|_=>0
def cz(l:List Nat):List Int:=l.map (λ(x:Nat)=>(x:Int))
def Enters(f:FuncId):Prop:=∀(args:Array Value) (W:World),(callFunc f args).run prog W=.ok (.enter f args) W
def uh(A:NS)(h:Int):NS:=match dB A h with|some m=>aS A m|none=>A
def Kh(ty:TypeId)(p:Nat)(name:String)(w:World)(mk:Value->Array Value)(Q:World->Ending->World->Prop):Prop:=
 ∃f v,Enters f/\∀W,ae [] w W->(method 409 ty (.pointer (some p)) name).run prog W=.ok (f,v) W/\Calls prog f (mk v) W (Q W)
def Kh.now{b:TypeId}{p:Nat}{a:String}{w:World}{mk:Value->Array Value}{Q:World->Ending->World->Prop}(h:Kh b p a w mk Q):
  ∃f v,Enters f/\(method 409 b (.pointer (some p)) a).run prog w=.ok (f,v) w/\Calls prog f (mk v) w (Q w):=by
 obtain⟨f,v,c,h⟩:=h;exact⟨f,v,c,h w (ae.refl _ _)⟩
def sO{A:NS}{x:Int}(a:bY A x=true):∃y:Nat,x=y:=⟨x.toNat,by have:=(qF _ _).1 a;omega⟩
def tN{A:NS}{x k s:Int}(a:iX A x k s=true):bY A x=true:=by
 unfold iX at a;simp only[Τ] at a;exact a.1
def aL{b:TypeId}{p:Nat}{a:String}{w:World}{mk:Value->Array Value}{Q:World->Ending->World->Prop}(f:FuncId)(d:Enters f)(e:∀W,(method 409 b (.pointer (some p)) a).run prog W=.ok (f,.pointer (some p)) W)
  (g:∀W,ae [] w W->Calls prog f (mk (.pointer (some p))) W (Q W)):Kh b p a w mk Q:=⟨f,_,d,λW c=>⟨e W,g W c⟩⟩
def dQ{d:TypeId}{p c:Nat}{a:String}{w:World}{mk:Value->Array Value}{Q:World->Ending->World->Prop}(f:FuncId)(e:Enters f)(g:w.cell? p=some (c:V))
  (h:∀W,W.cell? p=some (c:V)->(method 409 d (.pointer (some p)) a).run prog W=.ok (f,.pointer (some c)) W)
  (i:∀W,ae [] w W->Calls prog f (mk (.pointer (some c))) W (Q W)):Kh d p a w mk Q:=⟨f,_,e,λW b=>⟨h W (b.was g),i W b⟩⟩
structure NestQ where
 ty:TypeId
 at_:World->Nat->List Nat->NS->Prop
 upd:∀{w w':World} {p:Nat} {F S:List Nat} {A:NS},at_ w p F A->ae S w w'->(∀x,x∈S->x∉F)->at_ w' p F A
 lt:∀{w:World} {p:Nat} {F:List Nat} {A:NS},at_ w p F A->∀x,x∈F->x<w.heap.size
 ok:∀{w:World} {p:Nat} {F:List Nat} {A:NS},at_ w p F A->A.Ok
 make:∀{w:World} {p:Nat} {F:List Nat} {A:NS},at_ w p F A->Kh ty p "Make" w (λv=>#[v]) λw e w'=>e=.returned (dF A:Int)/\Goes F w w' (λF'=>at_ w' p F' (aO A))
 insert:∀{w:World} {p:Nat} {F:List Nat} {A:NS} (h x:Nat) (k s:Int),(-9223372036854775808<=k/\k<=9223372036854775807/\0<=s/\s<=18446744073709551615)->oF A h x=true->at_ w p F A->Kh ty p "Insert" w (λv=>#[v,(h:Int),(x:Int),.agg #[k,.int .u64 s]]) λw e w'=>e=.returned true/\Goes F w w' (λF'=>at_ w' p F' (aN A h x k s))
 min:∀{w:World} {p:Nat} {F:List Nat} {A:NS} (h:Nat),aW A h=true->at_ w p F A->Kh ty p "Min" w (λv=>#[v,(h:Int)]) λw e w'=>e=.returned (.tuple #[(og (dB A h):Int),.bool (dB A h).isSome])/\Goes F w w' (λF'=>at_ w' p F' A)
 extract:∀{w:World} {p:Nat} {F:List Nat} {A:NS} (h m:Nat),dB A h=some m->at_ w p F A->Kh ty p "Extract" w (λv=>#[v,(h:Int)]) λw e w'=>e=.returned (.tuple #[(m:Int),true])/\Goes F w w' (λF'=>at_ w' p F' (aS A m))
 nC:∀{w:World} {p:Nat} {F:List Nat} {A:NS} (x:Nat) (k s:Int),(-9223372036854775808<=k/\k<=9223372036854775807/\0<=s/\s<=18446744073709551615)->iX A x k s=true->at_ w p F A->Kh ty p "Decrease" w (λv=>#[v,(x:Int),.agg #[k,.int .u64 s]]) λw e w'=>e=.returned true/\Goes F w w' (λF'=>at_ w' p F' (aA A x k s))
 has:∀{w:World} {p:Nat} {F:List Nat} {A:NS} (x:Int),at_ w p F A->Kh ty p "Has" w (λv=>#[v,x]) λw e w'=>e=.returned (.bool (aW A x))/\w'=w
 entry:∀{w:World} {p:Nat} {F:List Nat} {A:NS} (x:Int),at_ w p F A->Kh ty p "Entry" w (λv=>#[v,x]) λw e w'=>e=.returned (.tuple #[.agg #[.int .i64 (if bY A x then(A.c x.toNat).k else 0),.int .u64 (if bY A x then(A.c x.toNat).s else 0)],.bool (bY A x)])/\ae [] w w'
structure mE extends NestQ where
 delete:∀{w:World} {p:Nat} {F:List Nat} {A:NS} (x:Nat),bY A (x:Int)=true->at_ w p F A->Kh ty p "Delete" w (λv=>#[v,(x:Int)]) λw e w'=>e=.returned true/\Goes F w w' (λF'=>at_ w' p F' (aS A (x:Int)))
 CY:∀{w:World} {p:Nat} {F:List Nat} {A:NS} (a b:Nat),fQ A a b=true->at_ w p F A->Kh ty p "Meld" w (λv=>#[v,(a:Int),(b:Int)]) λw e w'=>e=.returned true/\Goes F w w' (λF'=>at_ w' p F' (az A a b))
 len:∀{w:World} {p:Nat} {F:List Nat} {A:NS} (x:Int), -9223372036854775808<=x/\x<=9223372036854775807->at_ w p F A->Kh ty p "Len" w (λv=>#[v,x]) λw e w'=>e=.returned (cZ A x:Int)/\w'=w
 home:∀{w:World} {p:Nat} {F:List Nat} {A:NS} (x:Nat),bY A (x:Int)=true->at_ w p F A->Kh ty p "Home" w (λv=>#[v,(x:Int)]) λw e w'=>e=.returned (.tuple #[.int .i64 (A.c x).i,true])/\Goes F w w' (λF'=>at_ w' p F' A)
structure gQ(w:World)(F:List Nat)(gh oh ch gc oc cc:Nat)(A:NS):Prop where
 hcap:A.hs.length<=ch/\ch<=9223372036854775807
 Hf:A.cs.length<=cc/\cc<=9223372036854775807
 lt:gh<w.heap.size/\gc<w.heap.size
 far:gh∉F/\gc∉F
 h:∀j,j<A.hs.length->w.cell? ⟨gh,oh+j,none⟩=some (.bool (A.hs.getD j false))
 c0:∀x,x<A.cs.length->w.cell? ⟨gc,oc+x*3,none⟩=some (.int .i64 (A.c x).i)
 c1:∀x,x<A.cs.length->w.cell? ⟨gc,oc+x*3+1,none⟩=some (.int .i64 (A.c x).k)
 c2:∀x,x<A.cs.length->w.cell? ⟨gc,oc+x*3+2,none⟩=some (.int .u64 (A.c x).s)
def ic(gh oh ch gc oc cc:Nat)(A:NS):Value:=.agg #[.slice (some ⟨gh,oh,none⟩) A.hs.length ch,.slice (some ⟨gc,oc,none⟩) A.cs.length cc]
def gM(w:World)(F:List Nat)(v:Value)(A:NS):Prop:=∃gh oh ch gc oc cc,v=ic gh oh ch gc oc cc A/\gQ w F gh oh ch gc oc cc A
def gQ.upd{w w':World}{F:List Nat}{b f g c i k:Nat}{A:NS}(h:gQ w F b f g c i k A)(e:ae F w w'):gQ w' F b f g c i k A:=by
 have l:∀o,w'.cell? ⟨b,o,none⟩=w.cell? ⟨b,o,none⟩:=λo=>e.cell h.lt.1 h.far.1;have d:∀o,w'.cell? ⟨c,o,none⟩=w.cell? ⟨c,o,none⟩:=λo=>e.cell h.lt.2 h.far.2;have hs:=e.size;have m:=h.lt;exact⟨h.hcap,h.Hf,⟨ω,ω⟩,h.far,λj a=>by rw[l];exact h.h j a,λj a=>by rw[d];exact h.c0 j a,λj a=>by rw[d];exact h.c1 j a,λj a=>by rw[d];exact h.c2 j a⟩
def gQ.ag{w w':World}{F:List Nat}{a b c d e f:Nat}{A:NS}(h:gQ w F a b c d e f A)(g:ae [] w w'):gQ w' F a b c d e f A:=h.upd (g.mono σ)
def gQ.fresh{w w':World}{F F':List Nat}{c d e f g i:Nat}{A:NS}(h:gQ w F c d e f g i A)(k:ae F w w')(j:∀x,x∈F'->x∈F\/w.heap.size<=x):gQ w' F' c d e f g i A:=by
 have a:=h.upd k;have l:=h.lt;refine⟨a.hcap,a.Hf,a.lt,⟨λm=>?_,λm=>?_⟩,a.h,a.c0,a.c1,a.c2⟩
 .rcases j _ m with b|b;exact h.far.1 b;omega
 .rcases j _ m with b|b;exact h.far.2 b;omega
section
variable{w:World}{F:List Nat}{v:Value}{A:NS}
def lK(h:gM w F v A)(c:A.Ok)(x:Int):
  Calls prog 75 #[v,x] w λe w'=>e=.returned (.bool (aW A x))/\ae [] w w':=by
 obtain⟨f,g,j,k,l,m,rfl,h⟩:=h;unfold aW
 by_cases d:1<=x
 .by_cases a:x<A.hs.length
  .obtain⟨i,rfl⟩:∃i:Nat,x=i:=⟨x.toNat,ω⟩;have n:=h.h i ω;have o:=h.lt.1;simp only[π];unfold ic;clear h c;generalize A.hs.getD i false=b at *
   go_enter func75,ntmps75
   go_wp2;go_ret;exact⟨bF (by simp[d,a]),ξ⟩
  .unfold ic;clear h c
   go_enter func75,ntmps75
   go_wp2;go_ret;exact⟨bF (by simp[d];intro;omega),ξ⟩
 .unfold ic;clear h c
  go_enter func75,ntmps75
  go_wp2;go_ret;exact⟨bF ζ,ξ⟩
def vJ(h:gM w F v A)(b:A.Ok)(x:Int):
  Calls prog 93 #[v,x] w λe w'=>e=.returned (.bool (bY A x))/\ae [] w w':=by
 obtain⟨d,f,g,j,k,l,rfl,h⟩:=h;unfold bY uZ
 by_cases c:0<=x
 .by_cases a:x<A.cs.length
  .obtain⟨i,rfl⟩:∃i:Nat,x=i:=⟨x.toNat,ω⟩;have m:=h.c0 i ω;have n:=h.lt.2;simp only[π];unfold ic;clear h b
   go_enter func93,ntmps93
   go_wp2;go_ret;exact⟨bF (by simp[c,a]),ξ⟩
  .unfold ic;clear h b
   go_enter func93,ntmps93
   go_wp2;go_ret;exact⟨bF (by simp[c];intro;omega),ξ⟩
 .unfold ic;clear h b
  go_enter func93,ntmps93
  go_wp2;go_ret;exact⟨bF ζ,ξ⟩
def QK(cs:List Cl)(h:Int)(j:Nat)(a:j<cs.length):qO (cs.take (j+1)) h=qO (cs.take j) h+if(cs.getD j Cl.z).i=h/\0<h then 1 else 0:=by
 unfold qO;rw[ώ,List.filter_append,υ]
 grind
def D9(h:gM w F v A)(B:A.Ok)(x:Int):
  Calls prog 29 #[v,x] w λe w'=>e=.returned (cZ A x:Int)/\ae [] w w':=by
 obtain⟨I,J,K,M,N,O,rfl,h⟩:=h;have P:=h.Hf;have Q:=B.c1;unfold ic cZ;have H:=χ h;have r:=λj q=>QK A.cs x j q;have D:=χ r;have a:qO (A.cs.take A.cs.length) x=qO A.cs x:=by rw[List.take_length]
 have E:=χ a;have d:∀j,qO (A.cs.take j) x<=j:=λj=>Χ (OB _ _) ζ;have G:=χ d;clear h B r a d;generalize u:A.cs.length=n at *;generalize A.hs.length=m at *;have p:=χ u;clear u
 go_enter func29,ntmps29
 go_wp2
 go_loopw [5,11] (λk i wr=>∃j:Nat,j<=n/\i=.int .i64 (j:Int)/\k=.int .i64 (qO (A.cs.take j) x:Int)/\ae [] w wr) (λ_ i _=>n-(intOf i).toNat)
 case atStart=>exact⟨0,ω,rfl,by simp[qO],ξ⟩
 case round=>
  obtain⟨j,q,rfl,rfl,C⟩:=hrel;have s:=G.out j
  by_cases b:j<n
  .have l:=H.out.ag C;have R:=l.c0 j (by rw[p.out];exact b);have S:=l.c1 j (by rw[p.out];exact b);have T:=l.c2 j (by rw[p.out];exact b);have hs:=D.out j b;have o:=χ hs;clear l hs;have t:A.cs.getD j Cl.z=A.c j:=rfl;rw[t] at o;clear t;generalize qO (A.cs.take j) x=L at *;generalize (A.c j).i=y at *
   by_cases c:y=x
   .by_cases z:0<x
    .have f:(y == x)=true:=by simpa using c
     have g:=χ (ψ c z);clear c;go_wp2
     go_roundw
     case rel=>exact⟨j+1,ω,by go_num,by rw[o.out,Δ g.out];go_num,ξ⟩
     case measure=>simp[intOf];omega
    .have f:(y == x)=true:=by simpa using c
     have g:=χ (ψ c z);clear c;go_wp2
     go_roundw
     case rel=>exact⟨j+1,ω,by go_num,by rw[o.out,Γ (λe=>g.out.2 e.2)];go_num,ξ⟩
     case measure=>simp[intOf];omega
   .have f:(y == x)=false:=by simpa using c
    have g:=χ c;clear c;go_wp2
    go_roundw
    case rel=>exact⟨j+1,ω,by go_num,by rw[o.out,Γ (λe=>g.out e.1)];go_num,ξ⟩
    case measure=>simp[intOf];omega
  .obtain rfl:j=n:=ω;go_wp2;go_ret;exact⟨jW (by rw[E.out]),ξ⟩
end
def EH(g o j:Nat):((⟨g,o,none⟩:Addr).add j)=⟨g,o+j,none⟩:=by
 unfold Addr.add;split
 .subst_vars;simp
 .rfl
def JC{w:World}{base a n g:Nat}{e:TypeId}{v:Value}{xs:List Value}(h:w.ownsRow base e a v n xs)(b:v.ownBlock=some g):
  ∃cap,v=.slice (some g) n cap/\n<=cap/\cap<=9223372036854775807/\base<=g/\g<w.heap.size:=by
 rcases h.2 with⟨rfl,_⟩|⟨g',cap,cur,rfl,hb',hg,hnc,hcm,_⟩
 .cases b
 .obtain rfl:g'=g:=Option.some.inj b;exact⟨cap,rfl,hnc,by unfold maxLen at hcm;exact hcm,hb',(h.lt g' rfl).2⟩
def l9{P:Program}{B:Array Oper}{rest:List Oper}{o:Oper}{a:Act}{w:World}{Q:Exit->Act->World->Prop}(N:o.guard=none)(s x:Operand)(t:TypeId)
  (ho:o.op=.call { callee:=.builtin .append,args:=#[s,x],argTypes:=#[t,t] })
  (base:Nat) (e:TypeId) (z:Value) (b f:Nat) (ht:P.underlying t=some (.slice e)) (q:(P.info? e).map (λi=>(i.zero,i.size,i.bytes))=some (some z,b,f))
  (O:z.cells.size=b) (R:0<b) (r l n:Nat) (xs:List Value) (hs:a.eval s=.slice (some r) n l) (C:w.ownsRow base e b (.slice (some r) n l) n xs)
  (S T m cs:Nat) (d:List Value) (hx:a.eval x=.slice (some ⟨S,T,none⟩) m cs) (D:d.length=m*b) (v:∀j u,d[j]?=some u->w.cell? ⟨S,T+j,none⟩=some u) (h1:∀u∈d,u.oneCell'=true)
  (hn:n+m<=maxLen) (p:(n+m)*f<=140737488355328) (y:base<=w.heap.size)
  (h:∀g c w',w'.ownsRow base e b (.slice (some (g:Nat)) (n+m) c) (n+m) (xs++d)->ae [r] w w'->(g=r\/w.heap.size<=g)->n+m<=c->c<=9223372036854775807->g<w'.heap.size->wpList P B Q rest (a.put o.dst (.slice (some (g:Nat)) (n+m) c)) w'):
  wpList P B Q (o::rest) a w:=by
 refine wpList_plain N λK' M=>?_;obtain⟨i,W,E,F,G⟩:=info_parts q;obtain⟨v',w',X,U,Y,_,A⟩:=run_append_own_at (P:=P) w base t o.type e i z b f ht W E F G O R (.slice (some r) n l) n xs C ⟨S,T,none⟩ m cs d D (λj u hj=>by rw[EH];exact v j u hj) h1 hn p y;unfold Oper.wp execOp;simp only[ho,resolve,invoke,builtin,Sem.run_bind,Sem.run_pure,Result.andThen_ok,List.map_toArray,List.map_cons,List.map_nil,hs,hx,X];have hb:∃g,v'.ownBlock=some g/\(g=r\/w.heap.size<=g):=by
  rcases A with A|A
  .exact⟨r,A,Α rfl⟩
  .exact⟨_,A,Β (Θ _)⟩
 obtain⟨g,H,I⟩:=hb;obtain⟨c,rfl,J,K,Z,L⟩:=JC U H;exact M _ _ (h g c w' U ((ae.refl _ _).grown Y (λk hk=>Α (by cases hk;simp))) I J K L)
def qc(cs:List Cl):List Value:=(List.range (cs.length*3)).map (iw (λx=>cs.getD x Cl.z))
def rE(cs:List Cl):(qc cs).length=cs.length*3:=by unfold qc;simp
def nM{cs:List Cl}{j:Nat}(a:j<cs.length*3):(qc cs)[j]?=some (iw (λx=>cs.getD x Cl.z) j):=by unfold qc;simp[a]
def Jn(cs:List Cl):∀u∈qc cs,u.oneCell'=true:=by
 intro u a;unfold qc at a;obtain⟨j,_,rfl⟩:=List.mem_map.1 a;unfold iw;split;rfl;split<;>rfl
def Bo(cs:List Cl)(x:Nat)(c:Cl):(((qc cs).set (x*3) (.int .i64 c.i)).set (x*3+1) (.int .i64 c.k)).set (x*3+2) (.int .u64 c.s)=qc (cs.set x c):=by
 apply List.ext_getElem?;intro j
 by_cases a:j<cs.length*3
 .have b:j<(cs.set x c).length*3:=by rw[Ι];exact a
  rw[nM b];simp only[ύ,Ι,rE];have e:∀y,(cs.set x c).getD y Cl.z=if y=x/\x<cs.length then c else cs.getD y Cl.z:=λy=>by
   grind
  simp only[iw,e]
  by_cases f:x*3+2=j
  .grind
  .rw[Γ f]
   by_cases g:x*3+1=j
   .grind
   .rw[Γ g]
    by_cases h:x*3=j
    .grind
    .have d:¬(j / 3=x/\x<cs.length):=λe=>by have:=e.1;omega
     rw[Γ h,nM a];simp only[iw,d,if_false]
 .rw[List.getElem?_eq_none (by simp only[Ι,rE];omega),List.getElem?_eq_none (by simp only[Ι,rE];omega)]
def vH:(prog.info? 115).map (λi=>(i.zero,i.size,i.bytes))=some (some (.agg #[(0:Int),(0:Int),.int .u64 0]),3,24):=by kernel_rfl
def Cs:(prog.info? 4).map (λi=>(i.zero,i.size,i.bytes))=some (some (.bool false),1,1):=by kernel_rfl
def gQ.news{w:World}{F:List Nat}{g i k d a l:Nat}{A:NS}(h:gQ w F g i k d a l A)(j:Nat)(u:Value)(c:(qc A.cs)[j]?=some u):w.cell? ⟨d,a+j,none⟩=some u:=by
 have f:j<A.cs.length*3:=by have:=(List.getElem?_eq_some_iff.1 c).1;rwa[rE] at this
 rw[nM f] at c;cases c;have b:j / 3<A.cs.length:=ω;unfold iw;rcases(ω:j % 3=0\/j % 3=1\/j % 3=2) with e|e|e
 .have:=h.c0 (j / 3) b;rw[show a+j / 3*3=a+j by omega] at this;rw[this,Δ e];rfl
 .have:=h.c1 (j / 3) b;rw[show a+j / 3*3+1=a+j by omega] at this;rw[this,Γ ω,Δ e];rfl
 .have:=h.c2 (j / 3) b;rw[show a+j / 3*3+2=a+j by omega] at this;rw[this,Γ ω,Γ ω];rfl
def gQ.own{w W:World}{F:List Nat}{e f i n o p:Nat}{A:NS}(h:gQ w F e f i n o p A)(q:ae [] w W)(t:∀x,x∈F->x<w.heap.size){g cap:Nat}{cs:List Cl}
  (k:W.ownsRow w.heap.size 115 3 (.slice (some g) cs.length cap) cs.length (qc cs)) (r:cs.length<=cap/\cap<=9223372036854775807) (s:g<W.heap.size):gQ W F e f i g 0 cap ⟨A.hs,cs⟩:=by
 have c:=h.ag q;have l:=(k.lt g rfl).1;have a:∀j,j<cs.length*3->W.cell? ⟨g,0+j,none⟩=some (iw (λx=>cs.getD x Cl.z) j):=λj d=>by
  rw[ϓ,k.cellAt j d];exact nM d
 refine⟨c.hcap,r,⟨c.lt.1,s⟩,⟨c.far.1,λm=>by grind⟩,c.h,λx b=>?_,λx b=>?_,λx b=>?_⟩
 .simp only at b;rw[a (x*3) ω,AV];rfl
 .simp only at b;rw[Nat.add_assoc,a (x*3+1) ω,vZ];rfl
 .simp only at b;rw[Nat.add_assoc,a (x*3+2) ω,vS];rfl
section
variable{w:World}{F:List Nat}{v:Value}{A:NS}
def Xo{e f g C D E n g1 mK x m:Nat}{ci ck cs:Int}{s a:World}(h:gQ w F e f g C D E A)(G:∀x,x∈F->x<w.heap.size)(H:A.cs.length=n)
  (p:a.ownsRow w.heap.size 115 3 (.slice (some g1) (0+n) mK) (0+n) ([]++qc A.cs)) (I:ae [] w s) (q:ae [w.heap.size+1+1+1] s a) (N:w.heap.size+3<=g1) (J:0+n<=mK) (K:mK<=9223372036854775807) (L:g1<a.heap.size):
  gQ (((((a.setCell ⟨g1,x*3,none⟩ (.int .i64 ci)).setCell ⟨g1,x*3+1,none⟩ (.int .i64 ck)).setCell ⟨g1,x*3+2,none⟩ (.int .u64 cs)).setCell (w.heap.size+1+1:Nat) (.slice (some ⟨e,f,none⟩) m g)).setCell ⟨w.heap.size+1+1,1,none⟩ (.slice (some g1) n mK)) F e f g g1 0 mK ⟨A.hs,A.cs.set x ⟨ci,ck,cs⟩⟩/\
  ae [] w (((((a.setCell ⟨g1,x*3,none⟩ (.int .i64 ci)).setCell ⟨g1,x*3+1,none⟩ (.int .i64 ck)).setCell ⟨g1,x*3+2,none⟩ (.int .u64 cs)).setCell (w.heap.size+1+1:Nat) (.slice (some ⟨e,f,none⟩) m g)).setCell ⟨w.heap.size+1+1,1,none⟩ (.slice (some g1) n mK)):=by
 have j:a.ownsRow w.heap.size 115 3 (.slice (some g1) n mK) n (qc A.cs):=by have:=p;simp only[ϓ,Ϛ] at this;exact this
 have b:=kQ (kQ (kQ j (x*3) (.int .i64 ci)) (x*3+1) (.int .i64 ck)) (x*3+2) (.int .u64 cs);rw[Bo A.cs x ⟨ci,ck,cs⟩] at b;have t:ae [] w a:=I.joined q (λy M=>Β (by grind));generalize B:(((a.setCell ⟨g1,x * 3,none⟩ (.int .i64 ci)).setCell ⟨g1,x * 3+1,none⟩ (.int .i64 ck)).setCell ⟨g1,x * 3+2,none⟩ (.int .u64 cs))=i at *;have u:ae [] w i:=by rw[←B];exact β
 generalize r:((i.setCell (w.heap.size+1+1:Nat) (.slice (some ⟨e,f,none⟩) m g)).setCell ⟨w.heap.size+1+1,1,none⟩ (.slice (some g1) n mK))=o at *;have c:ae [] w o:=by rw[←r];exact β
 have d:ae [w.heap.size+1+1] i o:=by rw[←r];exact β
 have l:g1<i.heap.size:=(b.lt g1 rfl).2;have v:o.ownsRow w.heap.size 115 3 (.slice (some g1) (A.cs.set x ⟨ci,ck,cs⟩).length mK) (A.cs.set x ⟨ci,ck,cs⟩).length (qc (A.cs.set x ⟨ci,ck,cs⟩)):=by
  rw[Ι,H];exact au b d (λk z=>by cases z;simp;omega)
 exact⟨gQ.own h c G v (by grind) (Ψ l d.size),c⟩
def zZ(h:gM w F v A)(D:A.Ok)(E:∀x,x∈F->x<w.heap.size)(x:Nat)(hx:x<A.cs.length)(c:Cl):
  Calls prog 94 #[v,(x:Int),.agg #[c.i,c.k,.int .u64 c.s]] w λe w'=>∃g i k p q r,e=.returned (ic g i k p q r (gu A x c))/\gQ w' F g i k p q r (gu A x c)/\ae [] w w':=by
 obtain⟨g,i,k,p,q,r,rfl,h⟩:=h;have Q:=D.c1;have H:=χ h;have e:gu A x c=⟨A.hs,A.cs.set x c⟩:=rfl;unfold ic;rw[e];have f:=Bo A.cs x c;have R:=χ f;have y:=χ (rE A.cs);have z:=χ (Jn A.cs);have I:=χ E;have B:Hid (∀j,j<A.cs.length*3->([]++qc A.cs)[j]?=some (iw (λx=>A.cs.getD x Cl.z) j)):=λj P=>by rw[Ϛ];exact nM P
 obtain⟨ci,ck,cs⟩:=c;simp only[Ι];clear h D e f E;generalize C:A.cs.length=n at *;have J:=χ C;clear C;generalize A.hs.length=m at *
 go_enter func94,ntmps94
 go_wp2_with (at_builtin;refine l9 rfl _ _ 34 rfl w.heap.size 115 (.agg #[(0:Int),(0:Int),.int .u64 0]) 3 24 underlying34 vH rfl δ _ 0 0 [] rfl (MO _ _ σ [] 115 w.heap.size 3 0 rfl ζ μ) p q n r (qc A.cs) rfl y.out ((H.out.ag β).news) z.out μ ω ζ ?_;intro g1 mK d b a l s t u;(have K:w.heap.size+3<=g1:=by(rcases l with h|h;(omega);(simp at h;omega)));(have L:g1≠w.heap.size+2:=ω);(have M:¬w.heap.size+2=g1:=ω);clear l;(have S:d.cell? (w.heap.size+1:Nat)=some ((ci:Int):V):=a.kept γ ι);(have T:d.cell? ⟨w.heap.size+1,1,none⟩=some ((ck:Int):V):=a.kept γ ι);(have U:d.cell? ⟨w.heap.size+1,2,none⟩=some (.int .u64 cs):=a.kept γ ι);(have W:d.cell? w.heap.size=some (.slice (some ⟨g,i,none⟩) m k):=a.kept γ ι);(have N:d.cell? (w.heap.size+2:Nat)=some (.slice none 0 0):=a.kept γ ι);(have O:d.cell? ⟨w.heap.size+2,1,none⟩=some (.slice none 0 0):=a.kept γ ι);(have X:d.frozen? (w.heap.size+2:Nat)=false:=a.ay (v:=.slice none 0 0) γ ι γ);(have Y:d.frozen? ⟨w.heap.size+2,1,none⟩=false:=a.ay (v:=.slice none 0 0) γ ι γ);(have Z:d.cell? ⟨g1,x*3,none⟩=some _:=(b.cellAt (x*3) ω).trans (B.out (x*3) ω));(have z1:d.cell? ⟨g1,x*3+1,none⟩=some _:=(b.cellAt (x*3+1) ω).trans (B.out (x*3+1) ω));(have z2:d.cell? ⟨g1,x*3+2,none⟩=some _:=(b.cellAt (x*3+2) ω).trans (B.out (x*3+2) ω));(have y0:=b.frozenAt (x*3));(have y1:=b.frozenAt (x*3+1));(have y2:=b.frozenAt (x*3+2)))
 obtain⟨o,G⟩:=Xo (x:=x) (m:=m) (ci:=ci) (ck:=ck) (cs:=cs) H.out I.out J.out b β a K s t u;exact bodyPost_ret (v:=.agg #[.slice (some ⟨g,i,none⟩) m k,.slice (some (g1:Nat)) n mK]) (by simp[results,results94,go_sem,N,O,L,M]) rfl ⟨g,i,k,g1,0,mK,rfl,o,G⟩
end
def wQ(A:NS)(h:Int)(j:Nat):Option Nat:=(List.range j).foldl (AA A h) none
def KE(o:Option Nat):Int:=match o with|some y=>(y:Int)|none=>-1
def Q5(A:NS)(h:Int):wQ A h 0=none:=rfl
def EO(A:NS)(h:Int)(j:Nat):wQ A h (j+1)=AA A h (wQ A h j) j:=by unfold wQ;rw[List.range_succ,List.foldl_append];rfl
def PI(A:NS)(h:Int):wQ A h A.cs.length=dB A h:=rfl
def afg{α:Type}(p:Prop)[Decidable p](a b:α):(if p then a else b)=a\/(if p then a else b)=b:=by
 grind
def Yf(A:NS)(h:Int)(b:Option Nat)(x:Nat):AA A h b x=some x\/AA A h b x=b:=by unfold AA;exact afg _ _ _
def O6(A:NS)(h:Int):∀(j y:Nat),wQ A h j=some y->y<j
 |0,y,hy=>by rw[Q5] at hy;cases hy
 |j+1,y,hy=>by
  rw[EO] at hy;have ih:=O6 A h j;generalize wQ A h j=b at *;rcases Yf A h b j with e|e
  .rw[e] at hy;cases hy;omega
  .rw[e] at hy;have:=ih y hy;omega
section
variable{w:World}{F:List Nat}{v:Value}{A:NS}
def Li(h:gM w F v A)(t:A.Ok)(a b:Int):
  Calls prog 95 #[v,a,b] w λe w'=>e=.returned (.bool (bW A a b))/\ae [] w w':=by
 obtain⟨u,z,B,r,C,D,rfl,h⟩:=h;have j:=λW (K:ae [] w W)=>vJ ⟨u,z,B,r,C,D,rfl,h.ag K⟩ t a;have o:=λW (K:ae [] w W)=>vJ ⟨u,z,B,r,C,D,rfl,h.ag K⟩ t b;have J:=h.lt;have H:=χ h;unfold ic at *;generalize L:A.cs.length=n at *;generalize M:A.hs.length=m at *
 have R:Hid (∀W,ae [] (w.alloc (.cells #[.slice (some ⟨u,z,none⟩) m B,.slice (some ⟨r,C,none⟩) n D] 36)) W->
   W.cell? w.heap.size=some (.slice (some ⟨u,z,none⟩) m B)/\W.cell? ⟨w.heap.size,1,none⟩=some (.slice (some ⟨r,C,none⟩) n D)):=λW h=>
  ⟨h.was γ,h.was γ⟩
 have E:bW A a b=(bY A a && bY A b && decide (dA A a.toNat b.toNat)):=rfl;rw[E];cases l:bY A a
 .rw[l] at j;clear h t L M l E o
  go_enter func95,ntmps95
  go_wp2_with ((((with_reducible refine(j _ β).mono ?_));rintro e i ⟨rfl,c⟩;(have p:ae [] w i:=ae.trans β c);obtain⟨G,I⟩:=R.out i c))
  go_ret;exact⟨rfl,β⟩
 .cases s:bY A b
  .rw[l] at j;rw[s] at o;clear h t L M l s E
   go_enter func95,ntmps95
   go_wp2_with fail
   refine(j _ β).mono ?_;rintro e i ⟨rfl,c⟩;have p:ae [] w i:=ae.trans β c;obtain⟨G,I⟩:=R.out i c
   go_wp2_with fail
   refine(o _ p).mono ?_;rintro e d ⟨rfl,g⟩;have k:ae [] w d:=ae.trans p g;go_wp2;go_ret;exact⟨rfl,k⟩
  .rw[l] at j;rw[s] at o;have X:=(qF _ _).1 l;have Y:=(qF _ _).1 s;obtain⟨x,rfl⟩:∃x:Nat,a=x:=⟨a.toNat,ω⟩;obtain⟨y,rfl⟩:∃y:Nat,b=y:=⟨b.toNat,ω⟩;have N:=H.out.c1 x ω;have O:=H.out.c2 x ω;have P:=H.out.c1 y ω;have Q:=H.out.c2 y ω;have xL:x<n:=ω;have Z:y<n:=ω;have S:=λW=>Fg (A.c x).k (A.c x).s (A.c y).k (A.c y).s W;have T:=UY A x y;simp only[π,Bool.true_and];rw[←T];generalize hl:ry (A.c x).k (A.c x).s (A.c y).k (A.c y).s=le at *;generalize (A.c x).k=ka at *;generalize (A.c x).s=sa at *;generalize (A.c y).k=kb at *;generalize (A.c y).s=sb at *
   clear h t L M l s E T hl X Y
   go_enter func95,ntmps95
   go_wp2_with fail
   refine(j _ β).mono ?_;rintro e i ⟨rfl,c⟩;have p:ae [] w i:=ae.trans β c;obtain⟨G,I⟩:=R.out i c
   go_wp2_with fail
   refine(o _ p).mono ?_;rintro e d ⟨rfl,g⟩;have k:ae [] w d:=ae.trans p g;obtain⟨U,p1⟩:=R.out d (c.trans g);have g1:=k.was N;have g2:=k.was O;have g3:=k.was P;have g4:=k.was Q;have l2:r<d.heap.size:=Ψ J.2 k.size;have l3:w.heap.size<d.heap.size:=Ε d _ U;clear o N O P Q G I
   go_wp2_with ((with_reducible refine(S _).mono ?_);rintro e q ⟨rfl,f⟩;(have v3:ae [] w q:=ae.trans β f);(have s1:q.cell? d.heap.size=some ((ka:Int):V):=f.was γ);(have s2:q.cell? ⟨d.heap.size,1,none⟩=some (.int .u64 sa):=f.was γ);(have s3:q.cell? (d.heap.size+1:Nat)=some ((kb:Int):V):=f.was γ);(have s4:q.cell? ⟨d.heap.size+1,1,none⟩=some (.int .u64 sb):=f.was γ))
   all_goals
    go_ret;refine⟨bF ?_,v3⟩;clear R H j S
    first
     |(simp[*];done)
     |simp_all
def Je(n j:Nat)(a:j<n*3):(madeCells (Value.agg #[Value.int .i64 0,(0:Int),.int .u64 0]).cells (n*3)).toList.getD j undef=if j % 3=0 then .int .i64 0 else if j % 3=1 then .int .i64 0 else .int .u64 0:=by
 show(madeCells #[Value.int .i64 0,(0:Int),.int .u64 0] (n*3)).toList.getD j undef=_
 rw[φ,ε (by simp[size_madeCells];omega)];simp only[Option.getD_some,madeCells,Array.getElem_toList,Array.getElem_map,Array.getElem_range]
 grind
def Iw(n:Nat)(w:World)(F:List Nat)(r:∀x,x∈F->x<w.heap.size)(B:n<=65536):
  Calls prog 37 #[(n:Int)] w λe w'=>∃v',e=.returned v'/\gM w' F v' (NS.new n)/\ae [] w w':=by
 go_enter func37,ntmps37
 go_wp2_with (at_make;refine wpList_make_row rfl _ 34 rfl 115 (.agg #[(0:Int),(0:Int),.int .u64 0]) 3 24 underlying34 vH n rfl ω μ ?_;intro b f a;(have s:b.cell? w.heap.size=some (.slice none 0 0):=a.was γ);(have t:b.cell? ⟨w.heap.size,1,none⟩=some (.slice none 0 0):=a.was γ);(have z:b.frozen? w.heap.size=false:=a.ay (v:=.slice none 0 0) γ σ γ);(have A:b.frozen? ⟨w.heap.size,1,none⟩=false:=a.ay (v:=.slice none 0 0) γ σ γ))
 have k:=a.size;have l:=f.lt;have c:(NS.new n).cs.length=n:=by simp[NS.new]
 have u:ae [] w b:=ae.trans β a;have y:ae [] w ((b.setCell w.heap.size (.slice (some (w.heap.size+1:Nat)) 1 1)).setCell ⟨w.heap.size,1,none⟩ (.slice (some (w.heap.size+1+1:Nat)) n n)):=β;have d:ae [w.heap.size] b ((b.setCell w.heap.size (.slice (some (w.heap.size+1:Nat)) 1 1)).setCell ⟨w.heap.size,1,none⟩ (.slice (some (w.heap.size+1+1:Nat)) n n)):=β;have o:b.cell? (w.heap.size+1:Nat)=some (.bool false):=a.was γ;simp at k l;simp only[Κ] at f
 have h:∀j,j<n*3->b.cell? ⟨w.heap.size+1+1,j,none⟩=some (if j % 3=0 then .int .i64 0 else if j % 3=1 then .int .i64 0 else .int .u64 0):=λj g=>by
  rw[f.cell j g];exact congrArg some (Je n j g)
 refine bodyPost_ret (v:=.agg #[.slice (some (w.heap.size+1:Nat)) 1 1,.slice (some (w.heap.size+1+1:Nat)) n n]) (by simp[results,results37,go_sem,s,t]) rfl ⟨_,rfl,⟨w.heap.size+1,0,1,w.heap.size+1+1,0,n,?_,?_⟩,y⟩
 .unfold ic;rw[c];rfl
 .have p:∀j,j<n*3->((b.setCell w.heap.size (.slice (some (w.heap.size+1:Nat)) 1 1)).setCell ⟨w.heap.size,1,none⟩ (.slice (some (w.heap.size+1+1:Nat)) n n)).cell? ⟨w.heap.size+1+1,j,none⟩=some (if j % 3=0 then .int .i64 0 else if j % 3=1 then .int .i64 0 else .int .u64 0):=λj g=>d.kept (h j g) ι;refine⟨⟨Θ _,by show(1:Nat)<=_;omega⟩,⟨by rw[c];exact Θ _,ω⟩,⟨Ψ ω d.size,Ψ ω d.size⟩,⟨λm=>by have:=r _ m;omega,λm=>by have:=r _ m;omega⟩,λj g=>?_,λx i=>?_,λx i=>?_,λx i=>?_⟩
  .have q:j=0:=by simp[NS.new] at g;exact g
   subst q;exact d.kept o ι
  .rw[c] at i;rw[NS.uK,ϓ,p (x*3) ω,Δ ω];rfl
  .rw[c] at i;rw[NS.uK,ϓ,p (x*3+1) ω,Γ ω,Δ ω];rfl
  .rw[c] at i;rw[NS.uK,ϓ,p (x*3+2) ω,Γ ω,Γ ω];rfl
def UU(h:gM w F v A)(S:A.Ok)(f:Int):
  Calls prog 78 #[v,f] w λe w'=>e=.returned (.tuple #[(og (dB A f):Int),.bool (dB A f).isSome])/\ae [] w w':=by
 obtain⟨t,u,x,B,C,D,rfl,h⟩:=h;have T:=λW (hW:ae [] w W) (a b:Int)=>Li ⟨t,u,x,B,C,D,rfl,h.ag hW⟩ S a b;have h2:=h.Hf;have h4:=S.c1;have H:=χ h;unfold ic at *;have Z:=χ (PI A f);have HT:=χ (EO A f);have HB:=χ (O6 A f);clear h S;generalize X:A.cs.length=n at *;generalize r:A.hs.length=m at *;have K:=χ X;clear X r
 go_enter func78,ntmps78
 go_wp2
 go_loopw [6,12] (λb i wr=>∃j:Nat,j<=n/\i=.int .i64 (j:Int)/\b=.int .i64 (KE (wQ A f j))/\ae [] w wr/\wr.cell? w.heap.size=some (.slice (some ⟨t,u,none⟩) m x)/\wr.cell? ⟨w.heap.size,1,none⟩=some (.slice (some ⟨B,C,none⟩) n D)) (λ_ i _=>n-(intOf i).toNat)
 case atStart=>exact⟨0,ω,rfl,rfl,β,γ,γ⟩
 case round=>
  obtain⟨j,hj,rfl,rfl,J,Y,b1⟩:=hrel
  by_cases p:j<n
  .have r:=H.out.ag J;have q0:=r.c0 j (by rw[K.out];exact p);have q1:=r.c1 j (by rw[K.out];exact p);have q2:=r.c2 j (by rw[K.out];exact p);have hgw:=Ε wr _ Y;have k:Hid (wQ A f (j+1)=if decide (0<f) && decide ((A.c j).i=f) && (match wQ A f j with|none=>true|some y=>bW A j y) then some j else wQ A f j):=HT.out j;have o:=HB.out j;clear r;generalize wQ A f j=q at *;generalize (A.c j).i=y at *
   by_cases R:0<f
   .by_cases s:y=f
    .have L:(y == f)=true:=by simpa using s
     have U:=χ s;clear s;cases q with
     |none=>
      have c:wQ A f (j+1)=some j:=by rw[k.out];simp[R,U.out]
      have d:=χ c;clear c k;unfold KE;go_wp2
      go_roundw
      case rel=>exact⟨j+1,ω,by go_num,by first|(rw[d.out];done)|(rw[d.out];rfl),β,γ,γ⟩
      case measure=>simp[intOf];omega
     |some z=>
      have c:wQ A f (j+1)=if bW A j z then some j else some z:=by rw[k.out];simp[R,U.out]
      have E:=T _ (show ae [] w (wr.alloc (.cells #[(y:Int),.int .i64 (A.c j).k,.int .u64 (A.c j).s] 115)) by(repeat(first|assumption|exact ae.refl _ _|refine ae.alloc ?_ _|refine ae.drew ?_|refine ae.drewN ?_ _|refine ae.setCell ?_ ?_ _|focus(left;simp;done)|focus(right;simp;done)|focus(right;simp;omega)))) j z;clear o T;unfold KE;have M:¬(z:Int)<0:=ω;cases G:bW A j z
      .rw[G] at c E;have d:=χ c;clear c k G
       go_wp2_with ((with_reducible refine E.mono ?_);rintro e l ⟨rfl,g⟩;(have N:ae [] w l:=ae.trans β g);(have O:l.cell? w.heap.size=some (.slice (some ⟨t,u,none⟩) m x):=g.was γ);(have P:l.cell? ⟨w.heap.size,1,none⟩=some (.slice (some ⟨B,C,none⟩) n D):=g.was γ))
       go_roundw
       case rel=>exact⟨j+1,ω,by go_num,by first|(rw[d.out];done)|(rw[d.out];rfl),N,O,P⟩
       case measure=>simp[intOf];omega
      .rw[G] at c E;have d:=χ c;clear c k G
       go_wp2_with ((with_reducible refine E.mono ?_);rintro e l ⟨rfl,g⟩;(have N:ae [] w l:=ae.trans β g);(have O:l.cell? w.heap.size=some (.slice (some ⟨t,u,none⟩) m x):=g.was γ);(have P:l.cell? ⟨w.heap.size,1,none⟩=some (.slice (some ⟨B,C,none⟩) n D):=g.was γ))
       go_roundw
       case rel=>exact⟨j+1,ω,by go_num,by first|(rw[d.out];done)|(rw[d.out];rfl),N,O,P⟩
       case measure=>simp[intOf];omega
    .have L:(y == f)=false:=by simpa using s
     have c:wQ A f (j+1)=q:=by rw[k.out];simp[s]
     have d:=χ c;clear c k s o;go_wp2
     go_roundw
     case rel=>exact⟨j+1,ω,by go_num,by rw[d.out],β,γ,γ⟩
     case measure=>simp[intOf];omega
   .have c:wQ A f (j+1)=q:=by rw[k.out];simp[R]
    have d:=χ c;clear c k o;go_wp2
    go_roundw
    case rel=>exact⟨j+1,ω,by go_num,by rw[d.out],β,γ,γ⟩
    case measure=>simp[intOf];omega
  .obtain rfl:j=n:=ω;rw[Z.out];cases I:dB A f with
   |none=>
    have Q:=χ I;clear I;unfold KE;go_wp2;go_ret2;exact⟨by rw[Q.out];rfl,J⟩
   |some z=>
    have Q:=χ I;clear I;unfold KE;have M:¬(z:Int)<0:=ω;go_wp2;go_ret2;exact⟨by rw[Q.out];rfl,J⟩
end
structure RwK where
 at_:World->Nat->List Nat->List Nat->Prop
 upd:∀{w w':World} {p:Nat} {G S L:List Nat},at_ w p G L->ae S w w'->(∀z,z∈S->z∉G)->at_ w' p G L
 lt:∀{w:World} {p:Nat} {G L:List Nat},at_ w p G L->∀z,z∈G->z<w.heap.size
def zG(o:Option Nat):Value:=.pointer (o.map λb=>⟨b,0,none⟩)
def mG(f:Nat->Option Nat)(m:Nat):List Value:=(List.range m).map λh=>zG (f h)
def zm(f:Nat->Option Nat)(m:Nat):(mG f m).length=m:=by unfold mG;simp
def zW{f:Nat->Option Nat}{m j:Nat}(h:j<m):(mG f m)[j]?=some (zG (f j)):=by unfold mG;simp[h]
def M0(f:Nat->Option Nat)(m:Nat)(o:Option Nat):mG f m++[zG o]=mG (λh=>if h=m then o else f h) (m+1):=by
 unfold mG;rw[List.range_succ,List.map_append]
 congr 1
 .apply List.map_congr_left
  grind
 .simp
def fH{α:Type}(f:Nat->α)(h:Nat)(x:α):Nat->α:=λk=>if k=h then x else f k
def bM{α:Type}(f:Nat->α)(h:Nat)(x:α):fH f h x h=x:=by unfold fH;rw[Δ rfl]
def bg{α:Type}(f:Nat->α){h k:Nat}(x:α)(e:k≠h):fH f h x k=f k:=by unfold fH;rw[Γ e]
structure uz(K:RwK)(ety:TypeId)(w:World)(gr cr m:Nat)(has:Nat->Bool)(Z:List Nat)(ptr:Nat->Option Nat)(G L:Nat->List Nat):Prop where
 rows:w.ownsRow 0 ety 1 (.slice (some gr) m cr) m (mG ptr m)
 row:∀h,has h=true->∃rp,ptr h=some rp/\K.at_ w rp (G h) (L h)
 uo:∀h,has h=true->∀z,z∈G h->z∈Z
 P6:∀h k,has h=true->has k=true->h≠k->∀z,z∈G h->z∉G k
 Jb:∀z,z∈Z->z<w.heap.size
 Ij:gr∉Z
section
variable{K:RwK}{ety:TypeId}{w w':World}{gr cr m:Nat}{has:Nat->Bool}{Z:List Nat}{ptr:Nat->Option Nat}{G L:Nat->List Nat}
def uz.lt(h:uz K ety w gr cr m has Z ptr G L):gr<w.heap.size:=(h.rows.lt gr rfl).2
def uz.upd{S:List Nat}(h:uz K ety w gr cr m has Z ptr G L)(c:ae S w w')(f:∀z,z∈S->z≠gr/\z∉Z):uz K ety w' gr cr m has Z ptr G L:=
 ⟨au h.rows c (λk j a=>by cases j;exact (f _ a).1 rfl),λg d=>by
  obtain⟨rp,e,i⟩:=h.row g d
  exact ⟨rp,e,K.upd i c (λz b a=>(f z b).2 (h.uo g d z a))⟩,h.uo,h.P6,λz b=>Ψ (h.Jb z b) c.size,h.Ij⟩
def uz.cell(h:uz K ety w gr cr m has Z ptr G L){g rp:Nat}(a:g<m)(hp:ptr g=some rp):w.cell? ⟨gr,g,none⟩=some (rp:V):=by
 rw[h.rows.cellAt g ω,zW a,hp];rfl
def uz.one{S G' L':List Nat}{g rp:Nat}(h:uz K ety w gr cr m has Z ptr G L)(p:has g=true)(hp:ptr g=some rp)(r:ae S w w')(u:∀z,z∈S->z∈G g\/(z≠gr/\z∉Z))(v:K.at_ w' rp G' L')(s:∀z,z∈G'->z∈G g\/w.heap.size<=z):
  uz K ety w' gr cr m has (Z++G') ptr (fH G g G') (fH L g L'):=by
 have y:=h.lt;have o:∀z,z∈S->z≠gr:=λz b e=>by
  rcases u z b with a|a
  .exact h.Ij (by rw[←e];exact h.uo g p z a)
  .exact a.1 e
 have i:∀k,has k=true->k≠g->∀z,z∈S->z∉G k:=λk c d z b f=>by
  rcases u z b with a|a
  .exact h.P6 g k p c (λe=>d e.symm) z a f
  .exact a.2 (h.uo k c z f)
 refine⟨au h.rows r (λk c f=>by cases c;exact o _ f rfl),λk c=>?_,λk c z b=>?_,λk j c n d z b=>?_,λz b=>?_,λf=>?_⟩
 .by_cases e:k=g
  .subst e;rw[bM,bM];exact⟨rp,hp,v⟩
  .rw[bg _ _ e,bg _ _ e];obtain⟨q,l,x⟩:=h.row k c;exact⟨q,l,K.upd x r (i k c e)⟩
 .by_cases e:k=g
  .subst e;rw[bM] at b;exact τ.2 (Β b)
  .rw[bg _ _ e] at b;exact τ.2 (Α (h.uo k c z b))
 .by_cases e:k=g
  .subst e;rw[bM] at b;rw[bg _ _ (λe=>d e.symm)];rcases s z b with a|a
   .exact h.P6 k j c n d z a
   .exact λf=>by have:=h.Jb z (h.uo j n z f);omega
  .rw[bg _ _ e] at b
   by_cases l:j=g
   .subst l;rw[bM];intro f;rcases s z f with a|a
    .exact h.P6 k j c n d z b a
    .have:=h.Jb z (h.uo k c z b);omega
   .rw[bg _ _ l];exact h.P6 k j c n d z b
 .rcases τ.1 b with a|a
  .exact Ψ (h.Jb z a) r.size
  .exact K.lt v z a
 .rcases τ.1 f with a|a
  .exact h.Ij a
  .rcases s gr a with t|t
   .exact h.Ij (h.uo g p gr t)
   .omega
def uz.snoc{S G' L':List Nat}{rp gr' cr':Nat}(h:uz K ety w gr cr m has Z ptr G L)(i:has m=false)(r:ae S w w')(x:∀z,z∈S->z∉Z)(s:K.at_ w' rp G' L')(t:∀z,z∈G'->w.heap.size<=z)(y:gr'∉Z)(A:gr'∉G')
  (d:w'.ownsRow 0 ety 1 (.slice (some gr') (m+1) cr') (m+1) (mG ptr m++[zG (some rp)])):
  uz K ety w' gr' cr' (m+1) (λh=>has h || h == m) (Z++G') (fH ptr m (some rp)) (fH G m G') (fH L m L'):=by
 have a:∀k,(has k || k == m)=true->k=m\/(k≠m/\has k=true):=λk g=>by
  grind
 refine⟨by rw[M0] at d;exact d,λk g=>?_,λk g z c=>?_,λk j g p n z c=>?_,λz c=>?_,λv=>?_⟩
 .rcases a k g with rfl|⟨e,b⟩
  .rw[bM,bM,bM];exact⟨rp,rfl,s⟩
  .rw[bg _ _ e,bg _ _ e,bg _ _ e];obtain⟨q,l,u⟩:=h.row k b;exact⟨q,l,K.upd u r (λz c i=>x z c (h.uo k b z i))⟩
 .rcases a k g with rfl|⟨e,b⟩
  .rw[bM] at c;exact τ.2 (Β c)
  .rw[bg _ _ e] at c;exact τ.2 (Α (h.uo k b z c))
 .rcases a k g with rfl|⟨e,b⟩
  .rcases a j p with rfl|⟨l,f⟩
   .exact absurd rfl n
   .rw[bM] at c;rw[bg _ _ l];exact λi=>by have:=h.Jb z (h.uo j f z i);have:=t z c;omega
  .rw[bg _ _ e] at c;rcases a j p with rfl|⟨l,f⟩
   .rw[bM];exact λi=>by have:=h.Jb z (h.uo k b z c);have:=t z i;omega
   .rw[bg _ _ l];exact h.P6 k j b f n z c
 .rcases τ.1 c with o|o
  .exact Ψ (h.Jb z o) r.size
  .exact K.lt s z o
 .grind
end
def Mh{A:NS}{x:Nat}(a:x<A.cs.length)(b:0<(A.c x).i)(q:Int):
  (if q=(A.c x).i then(if(cZ A (A.c x).i:Int)-1=0 then none else some ((cZ A (A.c x).i:Int)-1)) else fJ A q)=fJ (gu A x Cl.z) q:=by
 have:=oH A x Cl.z q a;have hp:0<cZ A (A.c x).i:=fO.2 ⟨x,a,rfl,b⟩;unfold fJ
 by_cases e:q=(A.c x).i
 .subst e;rw[Δ rfl];rw[Δ ⟨rfl,b⟩,Γ (show ¬(Cl.z.i=(A.c x).i/\0<(A.c x).i) from λh=>by have:(0:Int)=(A.c x).i:=h.1;omega)] at this
  by_cases c:cZ A (A.c x).i=1
  .grind
  .grind
 .rw[Γ e];rw[Γ (λh=>e h.1.symm),Γ (show ¬(Cl.z.i=q/\0<q) from λh=>by have:(0:Int)=q:=h.1;omega)] at this;simp only[ϔ] at this;rw[this]
def ik{w:World}{c st:Nat}{F:List Nat}{A:NS}(h:aD w c F A st)(x:Nat)(L:bY A x=true):
  Calls prog 134 #[c,(x:Int)] w λe w'=>e=.returned true/\aD w' c F (aS A x) st/\ae F w w':=by
 have k:=bX h x L;obtain⟨f,z⟩:=(aj _ _).1 L;have C:=h.ok.nat x f;have hA1:=h.ok.h1;obtain⟨d,u⟩:∃r:Nat,(A.c x).i=r:=⟨(A.c x).i.toNat,ω⟩;have hp:0<cZ A (d:Int):=fO.2 ⟨x,f,u,ω⟩;have D:=Bb h.ok (d:Int);have O:=λq=>Mh f z q;have j:=TU h.ok x;have e:aS A (x:Int)=gu A x Cl.z:=by unfold aS;rw[Δ L];simp
 rw[u] at k O C;have HE:=χ e;have P:=χ O;have JN:1<=d:=ω;have HO:=χ j;obtain⟨M,B⟩:∃n,n=A.cs.length:=⟨_,rfl⟩;have v:=χ B;clear h L O j e B z u;have f:x<M:=by have:=v.out;omega
 obtain⟨m,N⟩:∃m:Int,m=(cZ A (d:Int):Int):=⟨_,rfl⟩;rw[←N] at P;have Y:=χ N;have hm1:0<m:=ω;have a:m<=65536:=ω;clear N hp D
 go_enter func134,ntmps134
 go_wp2_with fail
 refine k.mono ?_;rintro e J ⟨rfl,U,W⟩;have E:=U.lt;obtain⟨ca,nm,mb,g,cap,l,rt,dp,raw,h,rfl⟩:=U;have c1:=h.c1;have c3:=h.c3;rw[←v.out] at c1;have d0:=h.row.cell (x*3) (by rw[←v.out];omega);have d1:=h.row.cell (x*3+1) (by rw[←v.out];omega);have d2:=h.row.cell (x*3+2) (by rw[←v.out];omega);have f0:=h.row.free (x*3);have f1:=h.row.free (x*3+1);have f2:=h.row.free (x*3+2);have Z:=E c σ;have hs:=h.sep;have H:=χ h;have HU:=χ W;clear h E k W
 have G:∀(s:World),fK s mb (fJ (gu A x Cl.z))->ae [mb] (((J.setCell ⟨ca,x*3,none⟩ (.int .i64 0)).setCell ⟨ca,x*3+1,none⟩ (.int .i64 0)).setCell ⟨ca,x*3+2,none⟩ (.int .u64 0)) s->
   aD s c [c,ca,nm,mb,g] (aS A x) st/\ae [c,ca,nm,mb,g] w s:=λs a b=>by
  have t:ae [ca] J (((J.setCell ⟨ca,x*3,none⟩ (.int .i64 0)).setCell ⟨ca,x*3+1,none⟩ (.int .i64 0)).setCell ⟨ca,x*3+2,none⟩ (.int .u64 0)):=β;have Q:=(row3 (i:=x) H.out.row Cl.z).upd b ι;have iK:ae [ca,mb] J s:=(t.mono ι).joined b (λy hy=>Α (by simp at hy;simp[hy]));refine⟨⟨ca,nm,mb,g,cap,l,rt,dp,λy=>if y=x then Cl.z else raw y,?_,rfl⟩,HU.out.trans (iK.mono ι)⟩;have j:=HO.out;rw[HE.out] at j ⊢;exact H.out.turn iK Q a j (fM _ _ _) rfl (Bc H.out.rel (by rw[←v.out];exact f) (Α ⟨rfl,rfl⟩))
 have I:=χ G;clear G
 by_cases K:m=1
 .have hb:(m-1 == 0)=true:=ζ;have R:=χ K;clear K
  go_wp2_with (first
   |(at_lookup;refine iG (o:=⟨some 27,_,_,_,_,_⟩) (by rfl) _ _ (by rfl) mb (fJ A) (by rfl) (H.out.many.upd (S:=[ca]) β ι) (d:Int) (by rfl) ω m ((mI _ _).trans Y.out.symm) ?_)
   |(at_lookup;refine iG (o:=⟨some 34,_,_,_,_,_⟩) (by rfl) _ _ (by rfl) mb _ (by rfl) a (d:Int) (by rfl) ω (m-1) σ ?_)
   |(at_mapUpdate;refine lG rfl _ _ _ rfl mb (fJ A) rfl (H.out.many.upd (S:=[ca]) β ι) (d:Int) (m-1) rfl rfl ω ω ?_;intro s a b;(have q1:=b.cell (p:=⟨c,3,none⟩) (by simp;exact Z) ι))
   | (at_delete;refine nL rfl _ _ rfl mb _ rfl a (d:Int) rfl ω ?_;intro X Tq t))
  go_ret
  have T:fK X mb (fJ (gu A x Cl.z)):=fK.ext Tq (λq=>by
   rw[←P.out q]
   by_cases e:q=(d:Int)
   .rw[Δ e,Δ e,Δ (by have:=R.out;omega)]
   .rw [Γ e,Γ e,Γ e])
  exact⟨rfl,I.out X T (b.trans t)⟩
 .have hb:(m-1 == 0)=false:=ζ;have R:=χ K;clear K
  go_wp2_with (first
   |(at_lookup;refine iG (o:=⟨some 27,_,_,_,_,_⟩) (by rfl) _ _ (by rfl) mb (fJ A) (by rfl) (H.out.many.upd (S:=[ca]) β ι) (d:Int) (by rfl) ω m ((mI _ _).trans Y.out.symm) ?_)
   |(at_lookup;refine iG (o:=⟨some 34,_,_,_,_,_⟩) (by rfl) _ _ (by rfl) mb _ (by rfl) a (d:Int) (by rfl) ω (m-1) σ ?_)
   | (at_mapUpdate;refine lG rfl _ _ _ rfl mb (fJ A) rfl (H.out.many.upd (S:=[ca]) β ι) (d:Int) (m-1) rfl rfl ω ω ?_;intro s a b;(have q1:=b.cell (p:=⟨c,3,none⟩) (by simp;exact Z) ι)))
  go_ret
  have T:fK s mb (fJ (gu A x Cl.z)):=fK.ext a (λq=>by
   rw[←P.out q]
   by_cases e:q=(d:Int)
   .rw[Δ e,Δ e,Γ (by have:=R.out;omega)]
   .rw [Γ e,Γ e])
  exact⟨rfl,I.out s T b⟩
