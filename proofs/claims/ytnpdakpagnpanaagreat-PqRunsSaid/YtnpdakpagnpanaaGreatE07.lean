/-
  Lemmas.
-/
import Derived.Deep.OwnRows
import Derived.Test.YtnpdakpagnpanaaGreatE05
set_option linter.all false
set_option maxHeartbeats 8000000
set_option maxRecDepth 10000
namespace Go.Proofs.YtnpdakpagnpanaaGreat
open Tryz
open Go Go.RowKit
def kg(w:World)(rp:Nat)(G:List Nat)(d:Nat)(L:List Nat):Prop:=
 ∃mb f v,aQ w rp 228 3 (λj=>[Value.int .i64 (d:Int),v,.map (some mb)].getD j undef)/\w.ownsRow 0 3 1 v L.length (aZ (cz L))/\fK w mb f/\xN f L/\rp≠mb/\(∀g,v.ownBlock=some g->rp≠g/\mb≠g)/\G=rp::mb::v.ownBlock.toList
def wV.at_{w:World}{rp mb g cap d:Nat}{f:Int->Option Int}{L:List Nat}(h:wV w rp mb g cap d f L)(b:xN f L):kg w rp [rp,mb,g] d L:=
 ⟨mb,f,.slice (some g) L.length cap,h.head,by have:=h.row.own;rwa[dN] at this,h.map,b,h.sep.1,λc a=>by cases a;exact⟨h.sep.2.1,h.sep.2.2⟩,rfl⟩
def kg.open{w:World}{rp d:Nat}{G L:List Nat}(h:kg w rp G d L)(p:0<L.length):∃mb g cap f,wV w rp mb g cap d f L/\xN f L/\G=[rp,mb,g]:=by
 obtain⟨mb,f,v,a,b,c,i,j,k,rfl⟩:=h;obtain⟨g,cap,e,m, -⟩:=IZ.jd (l:=cz L) (by rw[dN];exact b) (by rw[dN];exact p);rw[dN] at e;subst e;obtain⟨n,o⟩:=k g rfl;exact⟨mb,g,cap,f,⟨a,m,c,j,n,o⟩,i,rfl⟩
def kg.lt{w:World}{rp d:Nat}{G L:List Nat}(h:kg w rp G d L):∀z,z∈G->z<w.heap.size:=by
 obtain⟨mb,f,v,b,c,e,g,i,j,rfl⟩:=h;intro z a;simp only[ρ] at a;rcases a with rfl|rfl|a
 .exact b.lt
 .exact e.lt
 .exact(c.lt z (by grind)).2
def kg.upd{w w':World}{rp d:Nat}{G L S:List Nat}(h:kg w rp G d L)(b:ae S w w')(p:∀z,z∈S->z∉G):kg w' rp G d L:=by
 obtain⟨mb,f,v,c,e,g,i,j,l,rfl⟩:=h;have a:∀z,z∈rp::mb::v.ownBlock.toList->z∉S:=λz m n=>p z n m;exact⟨mb,f,v,c.upd b (a _ σ),au e b (λk o=>a k (by simp[o])),g.upd b (a _ σ),i,j,l,rfl⟩
def YY{f:Int->Option Int}{L:List Nat}(h:xN f L){x:Nat}(d:x∉L):f x=none:=by
 cases a:f x with
 |none=>rfl
 |some v=>
  obtain⟨y,j,b, -,c⟩:=(h x v).1 a;have:y=x:=ω
  grind
def OC{f:Int->Option Int}{L:List Nat}(h:xN f L){x i:Nat}(a:L[i]?=some x):f x=some (i:Int):=(h x i).2 ⟨x,i,rfl,rfl,a⟩
def Zx{f:Int->Option Int}{L:List Nat}(h:xN f L)(x:Nat):nQ f (L++[x]) L.length x:=λz v d=>by
 rw[h z v];constructor
 .rintro⟨y,j,rfl,rfl,a⟩;have:=(List.getElem?_eq_some_iff.1 a).1;exact⟨y,j,rfl,rfl,ω,by grind⟩
 .rintro⟨y,j,rfl,rfl,b,a⟩;have c:=(List.getElem?_eq_some_iff.1 a).1;simp at c;rw[Ρ ω] at a;exact⟨y,j,rfl,rfl,a⟩
def I8(d:Nat)(n:2<=d/\d<=16)(w:World):
  Calls prog 85 #[(d:Int)] w λe w'=>∃rp G,e=.returned (.tuple #[(rp:Nat),(0:Int)])/\kg w' rp G d []/\ae [] w w'/\∀z,z∈G->w.heap.size<=z:=by
 have b:∀W,Calls prog 101 #[(d:Int)] W λe w'=>e=.returned true/\w'=W:=λW=>by
  have l:(d:Int)≥2:=ω;have m:(d:Int)<=16:=ω
  go_enter func101,ntmps101
  go_wp2;go_ret;exact⟨rfl,rfl⟩
 have c:=@run_makeMap prog
 go_enter func85,ntmps85
 go_wp2_with (first|((with_reducible refine aP (b _) ?_))|fail)
 go_ret2;have f:=fK.made w;have a:=eO (w.alloc (.map #[] 0)) [.int .i64 (d:Int),.slice none 0 0,.map (some w.heap.size)] 228;have h:(w.alloc (.map #[] 0)).heap.size=w.heap.size+1:=by rw[Κ]
 rw[h] at a;have i:ae [] (w.alloc (.map #[] 0)) ((w.alloc (.map #[] 0)).alloc (.cells #[(d:Int),.slice none 0 0,.map (some w.heap.size)] 228)):=(ae.refl _ _).alloc _;refine⟨w.heap.size+1,[w.heap.size+1,w.heap.size],rfl,⟨w.heap.size,λ_=>none,.slice none 0 0,a,⟨rfl,Α ⟨rfl,rfl⟩⟩,f.upd i σ,λz v=>σ,ω,λg j=>(by cases j),rfl⟩,β,λz k=>?_⟩;simp at k;omega
def TP{w:World}{rp d:Nat}{G:List Nat}(h:kg w rp G d []):Calls prog 144 #[rp,(0:Int)] w λe w'=>e=.returned (.tuple #[(0:Int),false])/\w'=w:=by
 obtain⟨mb,f,v,b,g, -, -, -, -, -⟩:=h;obtain⟨a,c,rfl,i⟩:=bz g;have j:=b.cellAt 1 (v:=.slice a 0 c) ω rfl;clear b g
 go_enter func144,ntmps144
 go_wp2;go_ret2;exact⟨rfl,rfl⟩
def VJ{w:World}{rp d x:Nat}{G L:List Nat}(h:kg w rp G d (x::L)):Calls prog 144 #[rp,(0:Int)] w λe w'=>e=.returned (.tuple #[(x:Int),true])/\w'=w:=by
 obtain⟨mb,g,cap,f,a, -, -⟩:=h.open σ;have c:=a.h1;have b:=a.cell 0 σ;rw[show(x::L).getD 0 0=x from rfl] at b;have i:0<(x::L).length:=σ;generalize (x::L).length=n at *;have j:¬n=0:=ω;clear a h
 go_enter func144,ntmps144
 go_wp2;go_ret2;exact⟨rfl,rfl⟩
def JD(O:iy){w:World}{rp d:Nat}{G L:List Nat}(K:O.at_ w)(h:kg w rp G d L)(hd:2<=d/\d<=16)(hl:L.length+1<=65536)(hH:Hp O.R d L)(x:Nat)(hx:x∉L)(T:L.Nodup)
  (i:∀y,y∈x::L->O.dom y) (q:∀y,y∈x::L->y<=65536) (c:∀z,z∈G->z∉O.rd):
  Calls prog 139 #[rp,.iface O.ty (.pointer (some O.p)),(x:Int)] w λe w'=>e=.returned true/\∃G' L',kg w' rp G' d L'/\L'.Perm (x::L)/\Hp O.R d L'/\O.at_ w'/\ae (G++O.wr) w w'/\∀z,z∈G'->z∈G\/w.heap.size<=z:=by
 obtain⟨mb,f,v,D,W,J,X,S,h6,rfl⟩:=h;have Y:=YY X hx;have Z:=χ hx;have hxl:=q x σ;obtain⟨a,B,rfl,hcc⟩:=bz W;have c1:=D.cellAt 1 (v:=.slice a L.length B) ω rfl;have c2:=D.cellAt 2 (v:=.map (some mb)) ω rfl;have f1:=D.free 1;have hlr:=D.lt;have F:=W.lt;have p:∀z,z∈(Value.slice a L.length B).ownBlock.toList->rp≠z/\mb≠z:=λz g=>h6 z (by simpa using g);have hp:=hH.snoc O.tr hd.1 (x:=x);have s:=Zx X x;have b:(L++[x]).set L.length x=L++[x]:=σ;have u:(L++[x]).Perm (x::L):=Φ (l₁:=L) (l₂:=[x])
 have HX:=χ (ψ K (ψ D (ψ J (ψ S (ψ p (ψ hp (ψ s (ψ b (ψ u (ψ T (ψ i (ψ q (ψ c F)))))))))))));have hmb:fK w mb f:=J;clear D J X h6 hH hx T i q c K p hp s b u F;generalize R:L.length=n at *;have HN:=χ R;clear R
 go_enter func139,ntmps139
 go_upto_region 5 with (first
  |(at_lookup;refine nV rfl _ _ rfl mb f rfl hmb (x:Int) rfl ω ?_;rw[Y];simp only[Option.getD_none,Option.isSome_none])
  | ((at_builtin;refine bD rfl _ _ 77 rfl 0 3 (.int .i64 0) 1 8 underlying77 gN rfl δ _ _ _ rfl (W) [.int .i64 (x:Int)] rfl (by simp [Value.oneCell']) (by first|rfl|(rw [Κ];rfl)) μ ω (ω) ?_;intro v2 I E A oq);obtain ⟨a2,C,rfl,ZA⟩:=bz E;(have d1:I.cell? ⟨rp,1,none⟩=some (.slice a n B):=A.kept c1 (λr=>(HX.out.2.2.2.2.1 rp r).1 rfl));(have e1:=A.ay c1 (λr=>(HX.out.2.2.2.2.1 rp r).1 rfl) f1)))
 obtain⟨K,D,J,S,p,hp,s,b,u,T,i,q,c,F⟩:=HX.out;have hnz:cz (L++[x])=cz L++[(x:Int)]:=by unfold cz;simp
 have t:(L++[x]).length=n+1:=by rw[υ,HN.out];rfl
 obtain⟨g2,cap2,e2,M, -⟩:=IZ.jd (l:=cz (L++[x])) (by rw[dN,t,hnz,dO];exact E) (by rw[dN,t];omega);rw[dN,t] at e2;cases e2;have m:rp≠g2/\mb≠g2/\(g2∈(Value.slice a n B).ownBlock.toList\/w.heap.size<g2):=by
  rcases oq with e|e
  .have r:g2∈(Value.slice a n B).ownBlock.toList:=by have e':(Value.slice a n B).ownBlock=some g2:=e.symm;rw[e'];simp
   have:=p g2 r;exact⟨this.1,this.2,Α r⟩
  .have h7:=e g2 rfl;have h8:=J.lt;exact⟨ω,ω,Β h7⟩
 have o:ae (Value.slice a n B).ownBlock.toList w I:=A;have H:ae [rp] I (I.setCell ⟨rp,1,none⟩ (.slice (some (g2:Nat)) (n+1) C)):=β;have N:∀z,z∈(Value.slice a n B).ownBlock.toList->rp≠z/\mb≠z:=p;have hR:wV (I.setCell ⟨rp,1,none⟩ (.slice (some (g2:Nat)) (n+1) C)) rp mb g2 C d f (L++[x]):=by
  refine⟨((D.upd o (λr=>(N rp r).1 rfl)).set 1 _).ext (λj hj=>?_),M.upd H (by simp;exact λe=>m.1 e.symm),(J.upd o (λr=>(N mb r).2 rfl)).upd H (by simp;exact λe=>S e.symm),S,m.1,m.2.1⟩;rw[t];rcases(ω:j=0\/j=1\/j=2) with rfl|rfl|rfl<;>rfl
 have P:∀z,z∈(Value.slice a n B).ownBlock.toList->z∉O.rd:=λz g=>c z (Λ _ (Λ _ g));have hOl:=O.low K;have Q:O.at_ (I.setCell ⟨rp,1,none⟩ (.slice (some (g2:Nat)) (n+1) C)):=O.upd (O.upd K o P) H (λz g=>by simp at g;rw[g];exact c rp σ);have ku:=GZ O Q hR hd ω n x hp.1 s (by rw[b];exact u.nodup_iff.2 (Ζ.2 ⟨Z.out,T⟩)) (λy hy=>i y (u.mem_iff.1 (by rw[←b];exact hy))) (λy hy=>q y (u.mem_iff.1 (by rw[←b];exact hy)))
  ⟨c rp σ,c mb σ,λr=>by rcases m.2.2 with e|e;exact P g2 e r;have:=hOl g2 r;omega⟩
 rw[b] at ku;have HR:=χ (ψ hp.2 (ψ u (ψ m (ψ o H))));have c9:=hR.h1;rw[t] at c9;have hwr9:wrap64 ((n:Int)+1-1)=(n:Int):=by rw[show(n:Int)+1-1=n by omega];exact IntWalk.wrap64_in _ ω
 clear hR Q hp s u p i q M E A oq d1 e1 o H c b
 go_wp2_with ((((with_reducible refine ku.mono ?_));rintro e w5 ⟨k,f',L',rfl,OU,NV,Wx,DT,dD,hk5,U⟩))
 obtain⟨hb,u,m,o,H⟩:=HR.out;go_ret;refine⟨rfl,_,L',OU.at_ NV,Wx.trans u,U (Β hb),DT,?_,λz g=>?_⟩
 .refine((o.mono (λz g=>by simp[g])).trans (H.mono (λz g=>by simp at g;simp[g]))).joined dD (λz g=>?_);simp only[ρ,τ] at g ⊢;rcases g with rfl|rfl|g
  .rcases m.2.2 with e|e
   .exact Α (Β (Β (Α e)))
   .exact Β ω
  .exact Α (Β (Α rfl))
  .exact Α (Β (Β (Β g)))
 .simp only[ρ,ς,or_false] at g;rcases g with rfl|rfl|rfl
  .exact Α σ
  .exact Α σ
  .rcases m.2.2 with e|e
   .exact Α (by simp[e])
   .exact Β ω
def MQ(O:iy){w:World}{rp d:Nat}{G L:List Nat}(A:O.at_ w)(h:kg w rp G d L)(N:2<=d/\d<=16)(P:L.length<=65536)(i x:Nat)(m:L[i]?=some x)(B:L.Nodup)(u:fI O.R d L i)(C:Below O.R d L i x)
  (c:∀y,y∈L->O.dom y) (j:∀y,y∈L->y<=65536) (b:∀z,z∈G->z∉O.rd):
  Calls prog 132 #[rp,.iface O.ty (.pointer (some O.p)),(x:Int)] w λe w'=>e=.returned true/\∃L',kg w' rp G d L'/\L'.Perm L/\Hp O.R d L'/\O.at_ w'/\ae (G++O.wr) w w':=by
 have S:=u.lt;obtain⟨mb,g,cap,f,n,q,rfl⟩:=h.open ω;have a:L.set i x=L:=by
  obtain⟨_,e⟩:=List.getElem?_eq_some_iff.1 m;rw[←e];simp
 have l:=Η m;have v:=GZ O A n N P i x u (q.hole m) (by rw[a];exact B) (λy t=>c y (by rw[←a];exact t)) (λy t=>j y (by rw[←a];exact t)) ⟨b rp σ,b mb σ,b g σ⟩;rw[a] at v;have T:=n.h2;have r:=OC q m;have s:=n.map;have K:=j x l;have M:=χ C;clear h n q m B u C c j b A a l
 go_enter func132,ntmps132
 go_wp2_with (first
  |(at_lookup;refine nV rfl _ _ rfl mb f rfl s (x:Int) rfl ω ?_;rw[r];simp only[Option.getD_some,Option.isSome_some])
  | (((with_reducible refine v.mono ?_));rintro e Q ⟨k,R,L',rfl,D,E,F,H,I,J,p⟩))
 go_ret;refine⟨rfl,L',D.at_ E,F,p (Β M.out),H,I.mono (λz o=>?_)⟩;simp only[ρ,τ] at o ⊢;rcases o with rfl|rfl|o
 .simp
 .simp
 .simp[o]
def IZ.take{w:World}{g cap:Nat}{l:List Int}(h:IZ w g cap l)(n:Nat)(b:n<=l.length):IZ w g cap (l.take n):=by
 rcases h.own.2 with⟨h1,_⟩|⟨g',cap',cur,h1,hb,hg,hc,hm,hs,ht⟩
 .cases h1
 .cases h1;have a:(l.take n).length=n:=ζ;refine⟨⟨by rw[iq];omega,Β ⟨g,cap,cur,rfl,ω,hg,ω,hm,hs,?_⟩⟩⟩;rw[a];have:cur.toList.take (n*1)=(cur.toList.take (l.length*1)).take (n*1):=by grind
  rw[this,ht];unfold aZ;rw[←List.map_take,Nat.mul_one]
def TY(L:List Nat)(n:Nat):cz (L.take n)=(cz L).take n:=by unfold cz;rw[List.map_take]
def Q0(f:Int->Option Int)(k:Int):Int->Option Int:=λq=>if q=k then none else f q
def yD{L:List Nat}{n:Nat}(b:L.length=n+1):L=L.take n++[L.getD n 0]:=by
 have c:L[n]?=some (L.getD n 0):=by simp[φ,b]
 have a:L.drop n=[L.getD n 0]:=by
  apply List.ext_getElem?
  grind
 calc L=L.take n++L.drop n:=(List.take_append_drop n L).symm
  _=_:=by rw[a]
def Yx{f:Int->Option Int}{L:List Nat}{n:Nat}(h:xN f L)(l:L.length=n+1)(m:L.Nodup):xN (Q0 f (L.getD n 0:Nat)) (L.take n):=λz v=>by
 have c:L[n]?=some (L.getD n 0):=by simp[φ,l]
 unfold Q0
 by_cases e:z=((L.getD n 0:Nat):Int)
 .rw[Δ e];constructor
  .intro h;cases h
  .rintro⟨y,j,rfl,rfl,a⟩;rw[List.getElem?_take] at a
   split at a
   .rename_i d
    have i:y=L.getD n 0:=ω;rw[←i] at c;obtain⟨g1,g⟩:=List.getElem?_eq_some_iff.1 a;obtain⟨g2,b⟩:=List.getElem?_eq_some_iff.1 c;have:=(List.getElem_inj m).1 (g.trans b.symm);omega
   .cases a
 .rw[Γ e,h z v];constructor
  .rintro⟨y,j,rfl,rfl,a⟩;have k:=(List.getElem?_eq_some_iff.1 a).1;have d:j≠n:=λb=>by rw[b,c] at a;cases a;exact e rfl
   exact⟨y,j,rfl,rfl,by grind⟩
  .rintro⟨y,j,rfl,rfl,a⟩;rw[List.getElem?_take] at a
   split at a
   .exact⟨y,j,rfl,rfl,a⟩
   .cases a
def ZR{f:Int->Option Int}{L:List Nat}{n i x:Nat}(h:xN f L)(q:L.length=n+1)(d:L[i]?=some x)(s:i<n)(r:L.Nodup):nQ (Q0 f x) (L.take n) i (L.getD n 0):=λz v p=>by
 have k:L[n]?=some (L.getD n 0):=by simp[φ,q]
 unfold Q0
 by_cases e:z=(x:Int)
 .rw[Δ e];constructor
  .intro h;cases h
  .rintro⟨y,j,rfl,rfl,b,a⟩;rw[List.getElem?_take] at a
   split at a
   .have l:y=x:=ω;rw[l] at a;obtain⟨g1,g⟩:=List.getElem?_eq_some_iff.1 a;obtain⟨g2,c⟩:=List.getElem?_eq_some_iff.1 d;exact absurd ((List.getElem_inj r).1 (g.trans c.symm)) b
   .cases a
 .rw[Γ e,h z v];constructor
  .rintro⟨y,j,rfl,rfl,a⟩;have m:=(List.getElem?_eq_some_iff.1 a).1;have o:j≠n:=λc=>by rw[c,k] at a;cases a;exact p rfl
   have b:j≠i:=λc=>by rw[c,d] at a;cases a;exact e rfl
   exact⟨y,j,rfl,rfl,b,by grind⟩
  .rintro⟨y,j,rfl,rfl,b,a⟩;rw[List.getElem?_take] at a
   split at a
   .exact⟨y,j,rfl,rfl,a⟩
   .cases a
def SI{L:List Nat}{n i x:Nat}(a:L.length=n+1)(c:L[i]?=some x)(d:i<n):(x::(L.take n).set i (L.getD n 0)).Perm L:=by
 have b:=yD a
 grind
def Iz(O:iy){w:World}{rp d:Nat}{G L:List Nat}(hO:O.at_ w)(h:kg w rp G d L)(hd:2<=d/\d<=16)(hl:L.length<=65536)(x:Nat)(hxm:x∈L)(u:L.Nodup)(I:Hp O.R d L)
  (m:∀y,y∈L->O.dom y) (o:∀y,y∈L->y<=65536) (a:∀z,z∈G->z∉O.rd):
  Calls prog 133 #[rp,.iface O.ty (.pointer (some O.p)),(x:Int)] w λe w'=>e=.returned true/\∃L',kg w' rp G d L'/\(x::L').Perm L/\Hp O.R d L'/\O.at_ w'/\ae (G++O.wr) w w':=by
 obtain⟨i,hi,hxi⟩:=List.mem_iff_getElem.1 hxm;have H:L[i]?=some x:=by rw[ε hi,hxi]
 obtain⟨n,c⟩:∃n,L.length=n+1:=⟨L.length-1,ω⟩;obtain⟨mb,g,cap,f,t,F,rfl⟩:=h.open ω;have c1:=t.h1;have c2:=t.h2;have hcp:=t.row.cap;rw[dN] at hcp;have fr:=t.head.free 1;have cl:=t.cell n ω;have hfx:=OC F H;have hmb:fK w mb f:=t.map;have hxl:=o x hxm;have K:=t.sep;have C:L[n]?=some (L.getD n 0):=by simp[φ,c]
 have hym:=Η C;have hyl:=o _ hym;have J:(L.take n).length=n:=ζ;rw[c] at c1 hcp;have Rc:∀W f',IZ W g cap (cz L)->fK W mb f'->aQ W rp 228 3 (λj=>[Value.int .i64 (d:Int),.slice (some (g:Nat)) n cap,.map (some mb)].getD j undef)->wV W rp mb g cap d f' (L.take n):=λW f' X h2 h3=>
  ⟨by rw[J];exact h3,by rw[TY];exact X.take n (by rw[dN];omega),h2,K⟩
 have R:ae [rp] w (w.setCell ⟨rp,1,none⟩ (.slice (some (g:Nat)) n cap)):=β;have JN:aQ (w.setCell ⟨rp,1,none⟩ (.slice (some (g:Nat)) n cap)) rp 228 3 (λj=>[Value.int .i64 (d:Int),.slice (some (g:Nat)) n cap,.map (some mb)].getD j undef):=
  (t.head.set 1 _).ext (λj hj=>by rcases(ω:j=0\/j=1\/j=2) with rfl|rfl|rfl<;>rfl)
 have A:=t.row.upd R (by simp;exact λe=>K.2.1 e.symm);have hm1:=t.map.upd R (by simp;exact λe=>K.1 e.symm);have Xu:=O.upd hO R (λz b=>by simp at b;rw[b];exact a rp σ);have HX:=χ (ψ F (ψ u (ψ I (ψ m (ψ o (ψ a (ψ H (ψ c (ψ J (ψ Rc (ψ R (ψ JN (ψ A (ψ Xu K))))))))))))));clear t F u I m o a hO H hxi J Rc JN A Xu C hym;generalize hy:L.getD n 0=y at *;have D:=χ hy;have hwr:wrap64 ((n:Int)+1-1)=(n:Int):=by rw[show(n:Int)+1-1=n by omega];exact IntWalk.wrap64_in _ ω
 have hwr2:(n:Int)+1-1=(n:Int):=ω;have hnI:(n:Int)<(n:Int)+1:=ω;have hncI:(n:Int)<=(cap:Int):=ω;have hwr3:IntKind.i64.wrap (n:Int)=(n:Int):=Μ _ ω;have hn0I:(0:Int)<=(n:Int):=ω
 go_enter func133,ntmps133
 go_upto_region 4 with (first
  | (at_lookup;refine nV rfl _ _ rfl mb f rfl hmb (x:Int) rfl ω ?_;rw [hfx];simp only [Option.getD_some,Option.isSome_some]))
 go_quiet (fail)
 go_upto_region 5 with(fail)
 go_region_law (fail)
 all_goals
  go_upto_region 6 with(fail)
  refine aU (λW=>ae [] (w.setCell ⟨rp,1,none⟩ (.slice (some (g:Nat)) n cap)) W) ⟨rfl,rfl,rfl,Θ _,λ_ _ _=>rfl⟩ ?_;intro W hW;obtain⟨F,u,I,m,o,a,H,c,J,Rc,R,JN,A,Xu,K⟩:=HX.out;have hmW:=hm1.upd hW σ;have N:=JN.upd hW σ;have T:=A.upd hW σ;have U:=O.upd Xu hW σ;have c2W:=N.cellAt 2 (v:=.map (some mb)) ω rfl;have S:ae [rp] w W:=R.then hW;clear hm1 JN A Xu hW c1 c2 fr cl;have q:∀s,fK s mb (Q0 f x)->ae [mb] W s->wV s rp mb g cap d (Q0 f x) (L.take n)/\O.at_ s:=λs Q l=>
   ⟨Rc s _ (T.upd l (by simp;exact λe=>K.2.2 e.symm)) Q (N.upd l (by simp;exact K.1)),O.upd U l (λz b=>by simp at b;rw[b];exact a mb σ)⟩
  by_cases r:i=n
  .have p:y=x:=by
    have X:L[n]?=some y:=by rw[←D.out];simp[φ,c]
    rw[←r,H] at X;cases X;rfl
   have hyx2:((y:Int) == (x:Int))=true:=by simp[p]
   have HG:=χ (ψ F (ψ u (ψ I (ψ q (ψ S (ψ p c))))));clear F u I m o a H c J Rc R K N T U q S p r
   go_upto_region 7 with (first
    | (at_delete;refine nL rfl _ _ rfl mb _ rfl hmW (x:Int) rfl ω ?_;intro s Q l))
   go_wp2;go_ret;obtain⟨F,u,I,q,S,p,c⟩:=HG.out;obtain⟨Pm,hO3⟩:=q s Q l;have hpl:=Yx F c u;rw[D.out,p] at hpl;refine⟨rfl,L.take n,Pm.at_ hpl,?_,I.take hd.1,hO3,(S.mono (λz b=>by simp at b;simp[b])).trans (l.mono (λz b=>by simp at b;simp[b]))⟩;have h0:=yD c;rw[D.out,p] at h0
   conv=>rhs;rw[h0]
   exact(Φ (l₁:=L.take n) (l₂:=[x])).symm
  .have P:i<n:=ω;have p:y≠x:=λe=>by
    have X:L[n]?=some y:=by rw[←D.out];simp[φ,c]
    rw[e] at X;obtain⟨g1,e1⟩:=List.getElem?_eq_some_iff.1 X;obtain⟨g2,e2⟩:=List.getElem?_eq_some_iff.1 H;exact r ((List.getElem_inj u).1 (e1.trans e2.symm)).symm
   have hyx2:((y:Int) == (x:Int))=false:=ζ;have M:=SI c H P;have Y:=ZR F c H P u;rw[D.out] at M Y;have Yb:=(I.take (n:=n) hd.1).hole O.tr hd.1 (i:=i) (by rw[J];exact P);have B:=Ζ.1 (M.nodup_iff.2 u);have Z:∀z,z∈(L.take n).set i y->O.dom z:=λz b=>m z (M.mem_iff.1 (Λ _ b));have h6m:∀z,z∈(L.take n).set i y->z<=65536:=λz b=>o z (M.mem_iff.1 (Λ _ b));have hsq:QT O rp mb g:=⟨a rp σ,a mb σ,a g σ⟩;have ku:=λs Q l=>GZ O (q s Q l).2 (q s Q l).1 hd ω i y Yb Y B.2 Z h6m hsq
   have hit:((L.take n).set i y)[i]?=some y:=by simp[J,P]
   have E:((L.take n).set i y).set i y=(L.take n).set i y:=by rw[List.set_set]
   have kd:=λ(w5:World) (f5:Int->Option Int) (DT:O.at_ w5) (OU:wV w5 rp mb g cap d f5 ((L.take n).set i y)) (NV:xN f5 ((L.take n).set i y)) (hT:i=0\/O.R ((L.take n).getD (par d i) 0) y)=>
    R9 O DT OU hd (by rw[Ι,J];omega) i y (Yb.any hd.1 y) (NV.hole hit) (by rw[E];exact B.2) (λz b=>Z z (by rw[←E];exact b)) (λz b=>h6m z (by rw[←E];exact b)) hsq
     (by rcases Nat.eq_zero_or_pos i with h|h;exact Α h;rcases hT with e|e;exact Α e;exact Β (by have:=fw hd.1 h;rw[gT,Γ ω];exact e))
   simp only[E] at kd;have HG:=χ (ψ M (ψ S B));clear F u I m o a H c J Rc R K N T U q S p r M Y Yb B Z h6m hsq hit E
   go_upto_region 9 with (first
    | (at_delete;refine nL rfl _ _ rfl mb _ rfl hmW (x:Int) rfl ω ?_;intro s Q l))
   have ku3:=ku s Q l;clear ku
   go_wp2_with (first
    |(((with_reducible refine ku3.mono ?_));rintro e w5 ⟨k,f',L',rfl,OU,NV,Wx,DT,dD,hk5,hH5⟩)
    | ((go_at_call 147;(have hki:k=i:=by have h:=(by assumption:((k:Int) == (i:Int))=true);simp at h;omega);(obtain ⟨hL5,EJ⟩:=hk5 hki);(rw [hL5] at OU NV);(refine (kd w5 f' DT OU NV EJ).mono ?_));rintro e w6 ⟨f6,L6,rfl,hR6,hP6,hpr6,hO6,iD,hH6⟩))
   all_goals
    go_ret;obtain⟨M,S,B⟩:=HG.out;have Ji:ae (rp::mb::g::O.wr) w w5:=((S.mono (λz b=>by simp at b;simp[b])).trans (l.mono (λz b=>by simp at b;simp[b]))).trans (dD.mono (λz b=>by simp only[ρ] at b ⊢;rcases b with h|h|h;exact Β (Β (Α h));exact Β (Α h);exact Β (Β (Β h))))
    first
     |(refine⟨rfl,L6,hR6.at_ hP6,(hpr6.cons x).trans M,hH6,hO6,Ji.trans (iD.mono (λz b=>by simp only[ρ] at b ⊢;rcases b with h|h|h;exact Β (Β (Α h));exact Β (Α h);exact Β (Β (Β h))))⟩)
     |(refine⟨rfl,L',OU.at_ NV,(Wx.cons x).trans M,hH5 (Α (by have h:=(by assumption:((k:Int) == (i:Int))=false);simp at h;omega)),DT,Ji⟩)
def GM:VI 122 "Ahead" 164:=by intro p c W h;unfold method;obtain⟨m,h1,h2,h3,h4⟩:=xA Tryz.t122.methods "Ahead" [⟨179,0,true⟩] 164 (by kernel_rfl);exact xD
def Gz:NI 122 "Ahead":=λ_ _=>by kernel_rfl
structure DB where
 n0:Nat
 c:Nat
 d:Nat
def abw(d:Nat):RwK:=⟨λw p G L=>kg w p G d L,λh hu hS=>h.upd hu hS,λh=>h.lt⟩
def lQ(A:NS)(h:Nat):Bool:=aW A (h:Int)
structure yw(w:World)(B:DB)(F Z:List Nat)(gr cr:Nat)(A:NS)(st:Nat)(ptr:Nat->Option Nat)(G L:Nat->List Nat):Prop where
 head:aQ w B.n0 179 3 (λj=>[Value.pointer (some B.c),.int .i64 (B.d:Int),.slice (some gr) A.hs.length cr].getD j undef)
 cells:aD w B.c F A st
 iM:uz (abw B.d) 174 w gr cr A.hs.length (lQ A) Z ptr G L
 bQ:B.n0∉F/\gr∉F/\B.n0≠gr
 iU:∀z,z∈Z->z∉F/\z≠B.n0
 dd:2<=B.d/\B.d<=16
def DB.blk(B:DB)(F Z:List Nat)(gr:Nat):List Nat:=B.n0::gr::(F++Z)
section
variable{w:World}{B:DB}{F Z:List Nat}{gr cr st:Nat}{A:NS}{ptr:Nat->Option Nat}{G L:Nat->List Nat}
def yw.upd{w':World}{S:List Nat}(h:yw w B F Z gr cr A st ptr G L)(c:ae S w w')(a:∀x,x∈S->x∉B.blk F Z gr):yw w' B F Z gr cr A st ptr G L:=by
 have f:∀x,x∈B.blk F Z gr->x∉S:=λx b g=>a x g b;exact⟨h.head.upd c (f _ (by simp[DB.blk])),h.cells.upd c (λx b i=>a x b (by simp[DB.blk,i])),h.iM.upd c (λz d=>⟨λe=>a z d (by simp[DB.blk,e]),λe=>a z d (by simp[DB.blk,e])⟩),h.bQ,h.iU,h.dd⟩
def yw.ag{w':World}(h:yw w B F Z gr cr A st ptr G L)(a:ae [] w w'):yw w' B F Z gr cr A st ptr G L:=h.upd a σ
def yw.lt(h:yw w B F Z gr cr A st ptr G L):∀x,x∈B.blk F Z gr->x<w.heap.size:=by
 intro x a;simp only[DB.blk,ρ,τ] at a;rcases a with rfl|rfl|a|a
 .exact h.head.lt
 .exact h.iM.lt
 .exact h.cells.lt x a
 .exact h.iM.Jb x a
def yw.h0(h:yw w B F Z gr cr A st ptr G L):w.cell? B.n0=some (B.c:V):=h.head.cellAt 0 ω rfl
def yw.h1(h:yw w B F Z gr cr A st ptr G L):w.cell? ⟨B.n0,1,none⟩=some ((B.d:Int):V):=h.head.cellAt 1 ω rfl
def yw.h2(h:yw w B F Z gr cr A st ptr G L):w.cell? ⟨B.n0,2,none⟩=some (.slice (some (gr:Nat)) A.hs.length cr):=h.head.cellAt 2 ω rfl
def yw.cK{w':World}{F':List Nat}{A':NS}{b:Nat}(h:yw w B F Z gr cr A st ptr G L)(l:ae F w w')(q:aD w' B.c F' A' b)(r:∀x,x∈F'->x∈F\/w.heap.size<=x)(i:A'.hs=A.hs):yw w' B F' Z gr cr A' b ptr G L:=by
 have f:=h.bQ;have g:=h.lt;have c:∀x,x<w.heap.size->x∉F->x∉F':=λx s p d=>by rcases r x d with j|j;exact p j;omega
 have m:=g B.n0 (by simp[DB.blk]);have n:=g gr (by simp[DB.blk]);have o:lQ A'=lQ A:=funext λk=>by unfold lQ aW;rw[i]
 exact⟨by rw[i];exact h.head.upd l f.1,q,by rw[i,o];exact h.iM.upd l (λz a=>⟨λe=>f.2.1 (by grind),λd=>(h.iU z d).1 a⟩),⟨c _ m f.1,c _ n f.2.1,f.2.2⟩,λz a=>⟨c z (h.iM.Jb z a) (h.iU z a).1,(h.iU z a).2⟩,h.dd⟩
def UA(B:DB)(F:List Nat)(A:NS)(hc:B.c∈F):iy where
 ty:=122
 p:=B.n0
 rd:=B.n0::F
 wr:=[B.c]
 lt:=λa b=>decide (dA A a b)
 dom:=λx=>bY A (x:Int)=true
 at_:=λw=>w.cell? B.n0=some (B.c:V)/\B.n0∉F/\∃st,aD w B.c F A st
 sub:=λx hx=>by simp at hx;rw[hx];exact Λ _ hc
 low:=λh x hx=>by
  obtain⟨h1,h3,st,h2⟩:=h;rcases ρ.1 hx with e|e
  .rw[e];exact Ε _ _ h1
  .exact h2.lt x e
 upd:=λh hu hS=>by
  obtain⟨h1,h3,st,h2⟩:=h;exact⟨hu.kept h1 (λhm=>hS _ hm σ),h3,st,h2.upd hu (λx hx hm=>hS x hx (by simp[hm]))⟩
 trans:=λa b c h1 h2=>Ν (dH (ϟ h1) (ϟ h2))
 total:=λa b h=>by rcases jA (A:=A) h with h|h;exact Α (Ν h);exact Β (Ν h)
 asym:=λa b h=>Ξ (rA (ϟ h))
 fn:=164
 recv:=.pointer (some B.c)
 ent:=λ_ _=>by kernel_rfl
 X3:=λh=>GM _ _ _ h.1
 Z5:=Gz _
 ask:=λ{w} x y h hx hy=>by
  obtain⟨h1,h3,st,h2⟩:=h;refine(fA h2 x y hx hy).mono ?_;rintro e w' ⟨rfl,hC,hu⟩;exact⟨rfl,⟨hu.kept h1 (λhm=>h3 (by simp at hm;rw[hm];exact h2.mem)),h3,_,hC⟩,hu⟩
def yw.ord(h:yw w B F Z gr cr A st ptr G L):(UA B F A h.cells.mem).at_ w:=⟨h.h0,h.bQ.1,st,h.cells⟩
end
def mU(w:World)(B:DB)(F Z:List Nat)(gr:Nat)(A:NS)(st:Nat):Prop:=∃cr ptr G L,yw w B F Z gr cr A st ptr G L/\qN B.d A L
section
variable{w:World}{B:DB}{F Z:List Nat}{gr st:Nat}{A:NS}
def mU.upd{w':World}{S:List Nat}(h:mU w B F Z gr A st)(c:ae S w w')(d:∀x,x∈S->x∉B.blk F Z gr):mU w' B F Z gr A st:=by
 obtain⟨cr,ptr,G,L,a,b⟩:=h;exact⟨cr,ptr,G,L,a.upd c d,b⟩
def mU.ag{w':World}(h:mU w B F Z gr A st)(a:ae [] w w'):mU w' B F Z gr A st:=h.upd a σ
def Ku(h:mU w B F Z gr A st)(g:Nat)(c:aW A g=true):
  Calls prog 129 #[B.n0,(g:Int)] w λe w'=>e=.returned (.tuple #[(og (dB A g):Int),.bool (dB A g).isSome])/\w'=w:=by
 obtain⟨cr,ptr,G,L,b,f⟩:=h;have k:=jQ b.cells g;rw[c] at k;have n:=b.h0;have o:=b.h2;obtain⟨rp,hp,i⟩:=b.iM.row g c;have p:=(aF _ _).1 c;have q:=b.iM.cell ω hp;have a:kg w rp (G g) B.d (L g):=i;cases d:L g with
 |nil=>
  rw[d] at a;have j:=TP a;rw[f.none c d];clear b f c i a hp d
  go_enter func129,ntmps129
  go_wp2_with (first|((with_reducible refine aP k ?_))|((with_reducible refine aP j ?_)))
  go_ret2;exact⟨rfl,rfl⟩
 |cons m l=>
  rw[d] at a;have j:=VJ a;rw[f.first b.dd.1 c d];clear b f c i a hp d
  go_enter func129,ntmps129
  go_wp2_with (first|((with_reducible refine aP k ?_))|((with_reducible refine aP j ?_)))
  go_ret2;exact⟨rfl,rfl⟩
end
def aff(B:HB)(w:World)(rp:Nat)(G L:List Nat):Prop:=∃v,aQ w rp 302 2 (Ow B v)/\w.ownsRow 0 3 1 v L.length (aZ (cz L))/\G=rp::v.ownBlock.toList/\∀g,v.ownBlock=some g->g≠rp
def acI (B:HB):RwK:=⟨aff B,λh hu hS=>by
 obtain⟨v,h1,h2,rfl,h3⟩:=h;exact⟨v,h1.upd hu (λhm=>hS _ hm σ),au h2 hu (λk hk hm=>hS k hm (Λ _ (Option.mem_toList.2 hk))),rfl,h3⟩,λh=>by
 obtain⟨v,h1,h2,rfl,h3⟩:=h;intro z hz;rcases ρ.1 hz with e|e
 .rw[e];exact h1.lt
 .exact (h2.lt z (Option.mem_toList.1 e)).2⟩
structure ShM(w:World)(B:HB)(F Z:List Nat)(gr cr:Nat)(A:NS)(st:Nat)(ptr:Nat->Option Nat)(G L:Nat->List Nat)(T:List Nat):Prop where
 head:aQ w B.n0 210 3 (λj=>[Value.pointer (some B.c),.slice (some gr) A.hs.length cr,.slice (some B.ga) T.length T.length].getD j undef)
 cells:aD w B.c F A st
 iM:uz (acI B) 298 w gr cr A.hs.length (lQ A) Z ptr G L
 AJ:IZ w B.ga T.length (cz T)
 tl:T.length=A.cs.length
 bQ:B.n0∉F/\gr∉F/\B.ga∉F
 sep:B.n0≠gr/\B.ga≠B.n0/\B.ga≠gr
 iU:∀z,z∈Z->z∉F/\z≠B.n0/\z≠B.ga
def HB.blk(B:HB)(F Z:List Nat)(gr:Nat):List Nat:=B.n0::gr::B.ga::(F++Z)
structure SdI(A:NS)(L:Nat->List Nat)(T:List Nat):Prop where
 di:qN 2 A L
 xU:∀h:Nat,aW A h=true->∀j x,(L h)[j]?=some x->T.getD x 0=j
section
variable{w w':World}{B:HB}{F Z:List Nat}{gr cr st:Nat}{A:NS}{ptr:Nat->Option Nat}{G L:Nat->List Nat}{T:List Nat}
def ShM.upd{S:List Nat}(h:ShM w B F Z gr cr A st ptr G L T)(a:ae S w w')(b:∀x,x∈S->x∉B.blk F Z gr):ShM w' B F Z gr cr A st ptr G L T:=by
 have d:∀x,x∈B.blk F Z gr->x∉S:=λx c g=>b x g c;exact⟨h.head.upd a (d _ (by simp[HB.blk])),h.cells.upd a (λx c i=>b x c (by simp[HB.blk,i])),h.iM.upd a (λz f=>⟨λe=>b z f (by simp[HB.blk,e]),λe=>b z f (by simp[HB.blk,e])⟩),h.AJ.upd a (d _ (by simp[HB.blk])),h.tl,h.bQ,h.sep,h.iU⟩
def ShM.ag(h:ShM w B F Z gr cr A st ptr G L T)(a:ae [] w w'):ShM w' B F Z gr cr A st ptr G L T:=h.upd a σ
def ShM.lt(h:ShM w B F Z gr cr A st ptr G L T):∀x,x∈B.blk F Z gr->x<w.heap.size:=by
 intro x a;simp only[HB.blk,ρ,τ] at a;rcases a with rfl|rfl|rfl|a|a
 .exact h.head.lt
 .exact h.iM.lt
 .exact h.AJ.lt
 .exact h.cells.lt x a
 .exact h.iM.Jb x a
def ShM.h0(h:ShM w B F Z gr cr A st ptr G L T):w.cell? B.n0=some (B.c:V):=h.head.cellAt 0 ω rfl
def ShM.h1(h:ShM w B F Z gr cr A st ptr G L T):w.cell? ⟨B.n0,1,none⟩=some (.slice (some (gr:Nat)) A.hs.length cr):=h.head.cellAt 1 ω rfl
def ShM.h2(h:ShM w B F Z gr cr A st ptr G L T):w.cell? ⟨B.n0,2,none⟩=some (.slice (some B.ga) T.length T.length):=h.head.cellAt 2 ω rfl
def ShM.IG(h:ShM w B F Z gr cr A st ptr G L T)(j:Nat)(a:j<T.length):w.cell? ⟨B.ga,j,none⟩=some (((T.getD j 0:Nat):Int):V):=by
 have:=h.AJ.cell j (by rw[dN];exact a);rwa[pJ] at this
def ShM.cK{F':List Nat}{A':NS}{b:Nat}(h:ShM w B F Z gr cr A st ptr G L T)(i:ae F w w')(r:aD w' B.c F' A' b)(s:∀x,x∈F'->x∈F\/w.heap.size<=x)(j:A'.hs=A.hs)(t:A'.cs.length=A.cs.length):ShM w' B F' Z gr cr A' b ptr G L T:=by
 have f:=h.bQ;have g:=h.lt;have c:∀x,x<w.heap.size->x∉F->x∉F':=λx u q d=>by rcases s x d with l|l;exact q l;omega
 have m:=g B.n0 (by simp[HB.blk]);have n:=g gr (by simp[HB.blk]);have o:=g B.ga (by simp[HB.blk]);have p:lQ A'=lQ A:=funext λk=>by unfold lQ aW;rw[j]
 exact⟨by rw[j];exact h.head.upd i f.1,r,by rw[j,p];exact h.iM.upd i (λz a=>⟨λe=>f.2.1 (by grind),λd=>(h.iU z d).1 a⟩),h.AJ.upd i f.2.2,by rw[t];exact h.tl,⟨c _ m f.1,c _ n f.2.1,c _ o f.2.2⟩,h.sep,λz a=>⟨c z (h.iM.Jb z a) (h.iU z a).1,(h.iU z a).2⟩⟩
def ShM.pile(h:ShM w B F Z gr cr A st ptr G L T){g:Nat}(e:aW A g=true)(o:∀y,y∈L g->bY A (y:Int)=true/\y<T.length)(p:(L g).Nodup)(d:∀j x,(L g)[j]?=some x->T.getD x 0=j):
  ∃rp v,ptr g=some rp/\G g=rp::v.ownBlock.toList/\FK w B F A rp v (L g) T:=by
 obtain⟨rp,hp,v,f,i,l,q⟩:=h.iM.row g e;have a:∀z,z∈rp::v.ownBlock.toList->z∈Z:=λz a=>h.iM.uo g e z (by grind);have b:=h.iU rp (a rp σ);have c:=h.cells.ok.c1;refine⟨rp,v,hp,l,f,i,h.AJ,h.h0,h.h2,⟨st,h.cells⟩,⟨b.2.2,b.2.1⟩,λk n=>?_,h.sep.2.1,⟨b.1,h.bQ.2.2,h.bQ.1⟩,o,p,d,by rw[h.tl];exact c⟩;have m:=h.iU k (a k (Λ _ (Option.mem_toList.2 n)))
 grind
def ShM.Cf(h:ShM w B F Z gr cr A st ptr G L T){g rp:Nat}(m:aW A g=true)(hp:ptr g=some rp){v':Value}{L' T' S:List Nat}(o:ae S w w')(p:∀z,z∈S->z∈G g\/z=B.ga\/z=B.c)(v:rp∈G g)(d:FK w' B F A rp v' L' T')(q:T'.length=T.length)(x:∀k,v'.ownBlock=some k->k∈G g\/w.heap.size<=k):
  ∃a,ShM w' B F (Z++(rp::v'.ownBlock.toList)) gr cr A a ptr (fH G g (rp::v'.ownBlock.toList)) (fH L g L') T':=by
 have s:=h.cells.mem;have b:=h.lt;obtain⟨a,r⟩:=d.Io;have i:B.n0≠B.c:=λe=>h.bQ.1 (by grind);have j:B.n0∉S:=λc=>by
  rcases p _ c with e|e|e
  .exact(h.iU _ (h.iM.uo g m _ e)).2.1 rfl
  .exact h.sep.2.1 e.symm
  .exact i e
 have n:∀z,z∈rp::v'.ownBlock.toList->z∈G g\/w.heap.size<=z:=λz f=>by
  grind
 refine⟨a,⟨?_,r,h.iM.one m hp o (λz f=>?_) ⟨v',d.hd,d.own,rfl,λk t=>(d.sg k t).1⟩ n,d.AJ,by rw[q];exact h.tl,h.bQ,h.sep,λz f=>?_⟩⟩
 .rw[q];exact h.head.upd o j
 .rcases p z f with e|e|e
  .exact Α e
  .rw[e];exact Β ⟨h.sep.2.2,λc=>(h.iU _ c).2.2 rfl⟩
  .rw[e];exact Β ⟨λl=>h.bQ.2.1 (by grind),λc=>(h.iU _ c).1 s⟩
 .rcases τ.1 f with e|e
  .exact h.iU z e
  .rcases n z e with l|l
   .exact h.iU z (h.iM.uo g m z l)
   .exact⟨λc=>by have:=b z (by simp[HB.blk,c]);omega,λu=>by have:=b B.n0 (by simp[HB.blk]);omega,λu=>by have:=b B.ga (by simp[HB.blk]);omega⟩
end
def ShAt(w:World)(B:HB)(F Z:List Nat)(gr:Nat)(A:NS)(st:Nat):Prop:=∃cr ptr G L T,ShM w B F Z gr cr A st ptr G L T/\SdI A L T
section
variable{w:World}{B:HB}{F Z:List Nat}{gr st:Nat}{A:NS}
def ShAt.upd{w':World}{S:List Nat}(h:ShAt w B F Z gr A st)(c:ae S w w')(d:∀x,x∈S->x∉B.blk F Z gr):ShAt w' B F Z gr A st:=by
 obtain⟨cr,ptr,G,L,T,a,b⟩:=h;exact⟨cr,ptr,G,L,T,a.upd c d,b⟩
def ShAt.ag{w':World}(h:ShAt w B F Z gr A st)(a:ae [] w w'):ShAt w' B F Z gr A st:=h.upd a σ
def EW(h:ShAt w B F Z gr A st)(g:Nat)(f:aW A g=true):
  Calls prog 266 #[B.n0,(g:Int)] w λe w'=>e=.returned (.tuple #[(og (dB A g):Int),.bool (dB A g).isSome])/\w'=w:=by
 obtain⟨cr,ptr,G,L,T,b,j⟩:=h;have C:=(aF _ _).1 f;have c:=b.cells.ok;have D:=c.h1;have k:=jf b.cells (g:Int) ω;have E:=b.h0;have H:=b.h1;obtain⟨rp,hp,v,p,n,q,r⟩:=b.iM.row g f;have I:=b.iM.cell ω hp;cases i:L g with
 |nil=>
  have d:=j.di.none f i;have o:=(jV (A:=A) (h:=(g:Int)) ω).1 d;rw[d];rw[o] at k;clear b j f p n q r hp i d o c
  go_enter func266,ntmps266
  go_wp2_with (first|((with_reducible refine aP k ?_))|fail)
  go_ret2;exact⟨rfl,rfl⟩
 |cons m l=>
  have d:=j.di.first ω f i;have o:¬cZ A (g:Int)=0:=λe=>by
   have:=(jV (A:=A) (h:=(g:Int)) ω).2 e;rw[d] at this;cases this
  rw[d];rw[i] at n;obtain⟨s,cap,rfl,_,u,x,t,a, -⟩:=fU n σ;have J:w.cell? ⟨rp,1,none⟩=some (.slice (some (s:Nat)) (m::l).length cap):=p.cellAt 1 ω rfl;have K:w.cell? (s:Nat)=some ((m:Int):V):=a 0 _ rfl;have y:((cZ A (g:Int):Int) == 0)=false:=ι;have z:(0:Int)<((m::l).length:Int):=ι;clear b j f p n q r hp i d a c o;generalize cZ A (g:Int)=M at *;generalize (m::l).length=N at *
  go_enter func266,ntmps266
  go_wp2_with (first|((with_reducible refine aP k ?_))|fail)
  go_ret2;exact⟨rfl,rfl⟩
end
def QI:(prog.info? 174).map (λi=>(i.zero,i.size,i.bytes))=some (some (.pointer none),1,8):=by kernel_rfl
def o9(n h:Nat):lQ (NS.new n) h=false:=by
 unfold lQ;cases a:aW (NS.new n) (h:Int) with
 |false=>rfl
 |true=>have:=(aF _ _).1 a;simp[NS.new] at this;omega
def Uj(n d:Nat)(w:World)(h:n<=65536)(s:2<=d/\d<=16):
  Calls prog 57 #[(n:Int),(d:Int)] w λe w'=>∃B F gr,e=.returned (.tuple #[B.n0,(0:Int)])/\mU w' B F [] gr (NS.new n) 0/\ae [] w w'/\(∀x,x∈B.blk F [] gr->w.heap.size<=x)/\B.d=d:=by
 go_enter func57,ntmps57
 go_wp2_with (first
  |(((with_reducible refine(pR n _ h).mono ?_));rintro e t ⟨c,F,rfl,p,g,u⟩)
  | (((with_reducible refine (I8 d s _).mono ?_));rintro e b ⟨rp,G,rfl,E,f,H⟩))
 go_ret2;have I:=g.size;have J:=f.size;have v:=p.lt;have y:((b.alloc (.cells #[.pointer none] 174)).heap.size)=b.heap.size+1:=by rw[Κ]
 have q:=eO (b.alloc (.cells #[.pointer none] 174)) [.pointer (some (c:Nat)),.int .i64 (d:Int),.slice (some b.heap.size) 1 1] 179;rw[y] at q;have A:ae [] b (b.alloc (.cells #[.pointer none] 174)):=(ae.refl _ _).alloc _;have i:ae [] (b.alloc (.cells #[.pointer none] 174)) ((b.alloc (.cells #[.pointer none] 174)).alloc (.cells #[(c:Nat),(d:Int),.slice (some b.heap.size) 1 1] 179)):=(ae.refl _ _).alloc _
 have r:ae [] b ((b.alloc (.cells #[.pointer none] 174)).alloc (.cells #[(c:Nat),(d:Int),.slice (some b.heap.size) 1 1] 179)):=A.trans i;have C:=qz b [.pointer none] 174 0 1 1 rfl ω μ;have l:∀x,t.heap.size<=x->x∉F:=λx m D=>by have:=v x D;omega
 refine⟨⟨b.heap.size+1,c,d⟩,F,b.heap.size,rfl,⟨1,λ_=>none,λ_=>[],λ_=>[],⟨q,(p.ag f).ag r,⟨?_,λk a=>?_,λk a=>?_,λk j a=>?_,λz o=>by simp at o,σ⟩,⟨l _ (by first|omega|(simp only;omega)),l _ ω,σ⟩,λz o=>by simp at o,s⟩,⟨λk a=>?_,λk a=>?_,λk x a=>?_⟩⟩,(g.trans f).trans r,λx m=>?_,rfl⟩
 .exact au C i σ
 .rw[o9] at a;cases a
 .rw[o9] at a;cases a
 .rw[o9] at a;cases a
 .have:=o9 n k;unfold lQ at this;rw[this] at a;cases a
 .have:=o9 n k;unfold lQ at this;rw[this] at a;cases a
 .have:=o9 n k;unfold lQ at this;rw[this] at a;cases a
 .simp only[DB.blk,ρ,Υ] at m;rcases m with rfl|rfl|m
  .omega
  .omega
  .exact u x m
section
variable{w:World}{B:DB}{F Z:List Nat}{gr st:Nat}{A:NS}
def V8(h:mU w B F Z gr A st)(m:65536<A.hs.length):
  Calls prog 127 #[B.n0] w λe w'=>e=.returned (0:Int)/\Goes (B.blk F Z gr) w w' (λF'=>∃b,F'=B.blk b Z gr/\mU w' B b Z gr A st):=by
 obtain⟨cr,ptr,G,L,c,g⟩:=h;have k:=jg c.cells;have i:dF A=0:=by unfold dF;rw[Δ m]
 have j:aO A=A:=by unfold aO;rw[Δ m]
 rw[i,j] at k;have q:=c.h0;have l:=χ (ψ c g);clear c g i j
 go_enter func127,ntmps127
 go_wp2_with (first|(((with_reducible refine k.mono ?_));rintro e p ⟨rfl,b,n,d,f⟩))
 go_ret;refine⟨rfl,B.blk b Z gr,⟨b,rfl,cr,ptr,G,L,l.out.1.cK d n f rfl,l.out.2⟩,d.mono (λy o=>by simp[DB.blk,o]),λx a=>?_⟩;simp only[DB.blk,ρ,τ] at a ⊢;rcases a with rfl|rfl|a|a
 .simp
 .simp
 .rcases f x a with h|h
  .simp[h]
  .exact Β h
 .simp[a]
def Rq(h:mU w B F Z gr A st)(O:¬65536<A.hs.length):
  Calls prog 127 #[B.n0] w λe w'=>e=.returned (A.hs.length:Int)/\Goes (B.blk F Z gr) w w' (λF'=>∃t Z1 Kl,F'=B.blk t Z1 Kl/\mU w' B t Z1 Kl (aO A) st):=by
 obtain⟨cr,ptr,G,L,b,hI⟩:=h;have k:=jg b.cells;have e1:dF A=A.hs.length:=by unfold dF;rw[Γ O]
 rw[e1] at k;have H:(aO A).hs.length=A.hs.length+1:=by unfold aO;rw[Γ O];simp
 have hh0:=b.cells.ok.h0;have p:=hI.make b.dd.1 b.cells.ok O ω;have h0:=b.h0;have kr:=λW=>I8 B.d b.dd W;have n:=χ (ψ b (ψ p H));clear b hI e1 p H;generalize a:A.hs.length=m at *;have u:=χ a;clear a
 go_enter func127,ntmps127
 go_wp2_with (first
  |(((with_reducible refine k.mono ?_));rintro e w1 ⟨rfl,t,X,v,Y⟩;(have q1:=v.kept n.out.1.h1 n.out.1.bQ.1);(have P:=v.kept n.out.1.h2 n.out.1.bQ.1);(have f2:=v.ay n.out.1.h2 n.out.1.bQ.1 (n.out.1.head.free 2));(have I:=au n.out.1.iM.rows v (λk U a=>by cases U;exact n.out.1.bQ.2.1 a));(rw[u.out] at P I))
  |(((with_reducible refine(kr _).mono ?_));rintro e w2 ⟨rp,N,rfl,hR,f,i⟩;(have q3:=f.was P);(have f3:=f.ay P σ f2);(have Q:=au I f σ))
  | (at_builtin;refine bD rfl _ _ 177 rfl 0 174 (.pointer none) 1 8 underlying177 QI rfl δ _ _ _ rfl (Q) [zG (some rp)] rfl (by simp [Value.oneCell',zG]) (by first|rfl|(rw [Κ];rfl)) μ ω ω ?_;intro v3 C D d I7;(have d:ae [gr] w2 C:=d);obtain ⟨l,E,ev, -⟩:=fU D ω;subst ev;(have d4:=d.kept q3 (by simp;exact n.out.1.bQ.2.2));(have f4:=d.ay q3 (by simp;exact n.out.1.bQ.2.2) f3)))
 go_ret;obtain⟨b,p,H⟩:=n.out;have J:=b.lt;have l0:=J B.n0 (by simp[DB.blk]);have l1:=J gr (by simp[DB.blk]);have hs1:=v.size;have hs2:=f.size;have gK:=X.lt;have r:l=gr\/w2.heap.size<l:=by
  rcases I7 with h|h
  .exact Α (Option.some.inj h)
  .exact Β (h l rfl)
 have s:ae [B.n0] C (C.setCell ⟨B.n0,2,none⟩ (.slice (some (l:Nat)) (m+1) E)):=β;have o:∀y,y<w.heap.size->y∉F->y∉t:=λy g hn a=>by rcases Y y a with h'|h';exact hn h';omega
 have N9:B.n0≠l:=by have:=b.bQ.2.2;omega
 have R:l∉t:=by
  rcases r with e|e
  .rw[e];exact o gr l1 b.bQ.2.1
  .exact λa=>by have:=gK l a;omega
 have Tw:∀z,z∈t->z≠gr/\z≠B.n0:=λz c=>⟨λe=>o gr l1 b.bQ.2.1 (by rw[←e];exact c),λe=>o _ l0 b.bQ.1 (by rw[←e];exact c)⟩
 have K:=hR.lt;have S:(abw B.d).at_ (C.setCell ⟨B.n0,2,none⟩ (.slice (some (l:Nat)) (m+1) E)) rp N []:=(hR.upd d (λz c a=>by simp at c;have:=i z a;omega)).upd s (λz c a=>by simp at c;have:=i z a;omega);have M:ae (B.n0::gr::F) w (C.setCell ⟨B.n0,2,none⟩ (.slice (some (l:Nat)) (m+1) E)):=(((v.mono (λy g=>by simp[g])).then f).trans (d.mono (λy g=>by simp at g;simp[g]))).trans (s.mono (λy g=>by simp at g;simp[g]))
 have x:=b.iM.snoc (by rw [u.out];cases hh:lQ A m with
  |false=>rfl
  |true=>have:=(aF _ _).1 hh;have:=u.out;omega) M (λz c=>by
   simp only[ρ] at c;rcases c with rfl|rfl|c
   .exact λa=>(b.iU _ a).2 rfl
   .exact b.iM.Ij
   .exact λa=>(b.iU z a).1 c) S (λz c=>by have:=i z c;omega) (gr':=l) (cr':=E) (by
   rcases r with e|e
   .rw[e];exact b.iM.Ij
   .exact λa=>by have:=b.iM.Jb _ a;omega) (by
   rcases r with e|e
   .rw[e];exact λa=>by have:=i _ a;omega
   .exact λa=>by have:=K _ a;omega) (by rw [u.out];exact au D s (λk U a=>by cases U;simp at a;exact N9 a.symm))
 rw[u.out] at x;have T:(λh=>lQ A h || h == m)=lQ (aO A):=funext λq=>by unfold lQ;rw[←u.out];exact(yR A (by rw[u.out];exact O) (by have:=u.out;omega) q).symm
 rw[T] at x;refine⟨rfl,B.blk t (Z++N) l,⟨t,Z++N,l,rfl,E,fH ptr m (some rp),fH G m N,fH L m [],⟨?_,?_,by rw[H];exact x,⟨o _ l0 b.bQ.1,R,N9⟩,λz c=>?_,b.dd⟩,p⟩,M.mono (λy g=>?_),λy g=>?_⟩
 .rw[H];refine((((b.head.upd v b.bQ.1).upd f σ).upd d (by simp;exact b.bQ.2.2)).set 2 _).ext (λj hj=>?_);rcases(ω:j=0\/j=1\/j=2) with rfl|rfl|rfl<;>rfl
 .exact((X.ag f).upd d (λz c a=>by simp at c;exact(Tw z a).1 c)).upd s (λz c a=>by simp at c;exact(Tw z a).2 c)
 .rcases τ.1 c with h|h
  .exact⟨o z (b.iM.Jb z h) (b.iU z h).1,(b.iU z h).2⟩
  .have:=i z h;exact⟨λa=>by have:=gK z a;omega,ω⟩
 .simp only[DB.blk,ρ,τ] at g ⊢;rcases g with h|h|h
  .exact Α h
  .exact Β (Α h)
  .exact Β (Β (Α h))
 .simp only[DB.blk,ρ,τ] at g ⊢;rcases g with h|h|h|h|h
  .exact Α (Α h)
  .rcases r with e|e
   .exact Α (Β (Α (by rw[h,e])))
   .exact Β ω
  .rcases Y y h with h|h
   .exact Α (Β (Β (Α h)))
   .exact Β h
  .exact Α (Β (Β (Β h)))
  .exact Β (by have:=i y h;omega)
end
def acO:(prog.info? 298).map (λi=>(i.zero,i.size,i.bytes))=some (some (.pointer none),1,8):=by kernel_rfl
def YG(W:World)(n:Nat)(c:n<=65536):IZ (W.alloc (.cells (madeCells #[(0:Int)] n) 3)) W.heap.size n (cz (List.replicate n 0)):=by
 have a:(cz (List.replicate n 0)).length=n:=by rw[dN];simp
 refine⟨⟨by rw[a];simp[iq,a],Β ⟨W.heap.size,n,madeCells #[(0:Int)] n,by rw[a],Nat.zero_le _,?_,by grind,μ,by simp[madeCells],?_⟩⟩⟩
 .show(W.heap.push _)[W.heap.size]?=_;simp
 .rw[a];apply List.ext_getElem?;intro j
  by_cases b:j<n
  .simp[madeCells,b,aZ,cz,Nat.mod_one]
  .rw[List.getElem?_eq_none (by grind),List.getElem?_eq_none (by rw[iq,a];omega)]
def SC(n:Nat)(w:World)(h:n<=65536):
  Calls prog 70 #[(n:Int)] w λe w'=>∃B F gr,e=.returned (.tuple #[B.n0,(0:Int)])/\ShAt w' B F [] gr (NS.new n) 0/\ae [] w w'/\∀x,x∈B.blk F [] gr->w.heap.size<=x:=by
 have E:=run_make_row' (P:=prog) 77 3 (.int .i64 0) 8 underlying77 gN rfl .i64 .i64 n ω ω
 go_enter func70,ntmps70
 go_wp2_with ((((with_reducible refine(pR n _ h).mono ?_));rintro e b ⟨c,F,rfl,v,t,D⟩))
 go_ret2;have K:=t.size;have G:=v.lt;have H:ae [] b (b.alloc (.cells #[.pointer none] 298)):=(ae.refl _ _).alloc _;obtain⟨o,f⟩:∃o,o=b.alloc (.cells #[.pointer none] 298):=⟨_,rfl⟩;have y:o.heap.size=b.heap.size+1:=by rw[f,Κ]
 have s:=YG o n h;obtain⟨p,g⟩:∃p,p=o.alloc (.cells (madeCells #[(0:Int)] n) 3):=⟨_,rfl⟩;have I:p.heap.size=b.heap.size+1+1:=by rw[g,Κ,y]
 have A:=eO p [.pointer (some (c:Nat)),.slice (some b.heap.size) 1 1,.slice (some (b.heap.size+1:Nat)) n n] 210;rw[I] at A;have q:ae [] o p:=by rw[g];exact(ae.refl _ _).alloc _
 have i:ae [] p (p.alloc (.cells #[(c:Nat),.slice (some b.heap.size) 1 1,.slice (some (b.heap.size+1:Nat)) n n] 210)):=(ae.refl _ _).alloc _;have l:ae [] b o:=by rw[f];exact H
 have C:=qz b [.pointer none] 298 0 1 1 rfl ω μ;rw[←g,y] at s;have r:∀x,b.heap.size<=x->x∉F:=λx u J=>by have:=G x J;omega
 have d:∀k:Nat,aW (NS.new n) k=false:=λk=>o9 n k;have m:(List.replicate n 0).length=n:=σ;rw[←f,←g]
 refine⟨⟨b.heap.size+1+1,c,b.heap.size+1⟩,F,b.heap.size,rfl,⟨1,λ_=>none,λ_=>[],λ_=>[],List.replicate n 0,⟨?_,((v.ag l).ag q).ag i,⟨?_,λk a=>?_,λk a=>?_,λk j a=>?_,λz s=>by simp at s,σ⟩,?_,?_,⟨r _ (by first|omega|(simp only;omega)),r _ ω,r _ (by first|omega|(simp only;omega))⟩,⟨by simp only;omega,by simp only;omega,by simp only;omega⟩,λz s=>by simp at s⟩,⟨⟨λk a=>?_,λk a=>?_,λk x a=>?_⟩,λk a=>?_⟩⟩,((t.trans l).trans q).trans i,λx u=>?_⟩
 .rw[m];exact A
 .rw[←f] at C;exact au (au C q σ) i σ
 .unfold lQ at a;rw[d] at a;cases a
 .unfold lQ at a;rw[d] at a;cases a
 .unfold lQ at a;rw[d] at a;cases a
 .rw[m];exact s.upd i σ
 .simp[NS.new]
 .rw[d] at a;cases a
 .rw[d] at a;cases a
 .rw[d] at a;cases a
 .rw[d] at a;cases a
 .simp only[HB.blk,ρ,Υ] at u;rcases u with rfl|rfl|rfl|u
  .omega
  .omega
  .omega
  .exact D x u
section
variable{w:World}{B:HB}{F Z:List Nat}{gr st:Nat}{A:NS}
def SG(h:ShAt w B F Z gr A st)(m:65536<A.hs.length):
  Calls prog 264 #[B.n0] w λe w'=>e=.returned (0:Int)/\Goes (B.blk F Z gr) w w' (λF'=>∃b,F'=B.blk b Z gr/\ShAt w' B b Z gr A st):=by
 obtain⟨cr,ptr,G,L,T,c,g⟩:=h;have k:=jg c.cells;have i:dF A=0:=by unfold dF;rw[Δ m]
 have j:aO A=A:=by unfold aO;rw[Δ m]
 rw[i,j] at k;have q:=c.h0;have l:=χ (ψ c g);clear c g i j
 go_enter func264,ntmps264
 go_wp2_with (first|(((with_reducible refine k.mono ?_));rintro e p ⟨rfl,b,n,d,f⟩))
 go_ret;refine⟨rfl,B.blk b Z gr,⟨b,rfl,cr,ptr,G,L,T,l.out.1.cK d n f rfl rfl,l.out.2⟩,d.mono (λy o=>by simp[HB.blk,o]),λx a=>?_⟩;simp only[HB.blk,ρ,τ] at a ⊢;rcases a with rfl|rfl|rfl|a|a
 .simp
 .simp
 .simp
 .rcases f x a with h|h
  .simp[h]
  .exact Β h
 .simp[a]
def ND(h:ShAt w B F Z gr A st)(Q:¬65536<A.hs.length):
  Calls prog 264 #[B.n0] w λe w'=>e=.returned (A.hs.length:Int)/\Goes (B.blk F Z gr) w w' (λF'=>∃r Z1 Kl,F'=B.blk r Z1 Kl/\ShAt w' B r Z1 Kl (aO A) st):=by
 obtain⟨cr,ptr,G,L,T,a,S⟩:=h;have k:=jg a.cells;have e1:dF A=A.hs.length:=by unfold dF;rw[Γ Q]
 rw[e1] at k;have K:(aO A).hs.length=A.hs.length+1:=by unfold aO;rw[Γ Q];simp
 have hh0:=a.cells.ok.h0;have M:SdI (aO A) (fH L A.hs.length []) T:=by
  refine⟨S.di.make ω a.cells.ok Q ω,λk D j x E=>?_⟩
  by_cases e:k=A.hs.length
  .subst e;rw[bM] at E;simp at E
  .rw[bg _ _ e] at E;rw[yR A Q ω] at D;exact S.xU k (by simpa[e] using D) j x E
 have h0:=a.h0;have p:=χ (ψ a (ψ M K));clear a S e1 M K;generalize b:A.hs.length=m at *;have s:=χ b;clear b
 go_enter func264,ntmps264
 go_wp2_with (first
  |(((with_reducible refine k.mono ?_));rintro e d ⟨rfl,r,hC,t,hF⟩;(have W:=t.kept p.out.1.h1 p.out.1.bQ.1);(have f2:=t.ay p.out.1.h1 p.out.1.bQ.1 (p.out.1.head.free 1));(have N:=au p.out.1.iM.rows t (λk D b=>by cases D;exact p.out.1.bQ.2.1 b));(rw[s.out] at W N);(have X:(d.alloc (.cells #[B.n0,.slice none 0 0] 302)).ownsRow _ _ _ _ _ _:=au N ((ae.refl [] d).alloc (.cells #[B.n0,.slice none 0 0] 302)) σ))
  | (at_builtin;refine bD rfl _ _ 208 rfl 0 298 (.pointer none) 1 8 underlying208 acO rfl δ _ _ _ rfl (X) [zG (some d.heap.size)] rfl (by simp [Value.oneCell',zG]) (by first|rfl|(rw [Κ];rfl)) μ ω ω ?_;intro v3 H I c I7;(have c:ae [gr] (d.alloc (.cells #[B.n0,.slice none 0 0] 302)) H:=c);obtain ⟨n,J,ev, -⟩:=fU I ω;subst ev;(have q3:(d.alloc (.cells #[B.n0,.slice none 0 0] 302)).cell? ⟨B.n0,1,none⟩=_:=((ae.refl [] d).alloc _).was W);(have f3:(d.alloc (.cells #[B.n0,.slice none 0 0] 302)).frozen? ⟨B.n0,1,none⟩=false:=((ae.refl [] d).alloc _).ay W σ f2);(have d4:=c.kept q3 (by simp;exact p.out.1.sep.1));(have f4:=c.ay q3 (by simp;exact p.out.1.sep.1) f3)))
 go_ret;obtain⟨a,U,K⟩:=p.out;have u:=a.lt;have l0:=u B.n0 (by simp[HB.blk]);have l1:=u gr (by simp[HB.blk]);have l2:=u B.ga (by simp[HB.blk]);have hs1:=t.size;have Y:=c.size;rw[Κ] at Y;have gK:=hC.lt;have O:=eO d [.pointer (some B.n0),.slice none 0 0] 302;have R:ae [] d (d.alloc (.cells #[B.n0,.slice none 0 0] 302)):=(ae.refl _ _).alloc _;have v:n=gr\/d.heap.size+1<n:=by
  rcases I7 with h|h
  .exact Α (Option.some.inj h)
  .right;have:=h n rfl;rwa[Κ] at this
 have o:ae [B.n0] H (H.setCell ⟨B.n0,1,none⟩ (.slice (some (n:Nat)) (m+1) J)):=β;have l:∀y,y<w.heap.size->y∉F->y∉r:=λy i hn b=>by rcases hF y b with h'|h';exact hn h';omega
 have N9:B.n0≠n:=by have:=a.sep.1;omega
 have acC:n∉r:=by
  rcases v with e|e
  .rw[e];exact l gr l1 a.bQ.2.1
  .exact λb=>by have:=gK n b;omega
 have Tw:∀z,z∈r->z≠gr/\z≠B.n0:=λz f=>⟨λe=>l gr l1 a.bQ.2.1 (by rw[←e];exact f),λe=>l _ l0 a.bQ.1 (by rw[←e];exact f)⟩
 have hRk:(acI B).at_ (H.setCell ⟨B.n0,1,none⟩ (.slice (some (n:Nat)) (m+1) J)) d.heap.size [d.heap.size] []:=by
  refine⟨.slice none 0 0,((O.ext (λj E=>rfl)).upd c ζ).upd o ζ,⟨rfl,Α ⟨rfl,rfl⟩⟩,rfl,λg hg=>by cases hg⟩
 have P:ae (B.n0::gr::F) w (H.setCell ⟨B.n0,1,none⟩ (.slice (some (n:Nat)) (m+1) J)):=(((t.mono (λy i=>by simp[i])).then R).trans (c.mono (λy i=>by simp at i;simp[i]))).trans (o.mono (λy i=>by simp at i;simp[i]))
 have C:=a.iM.snoc (by rw [s.out];cases hh:lQ A m with
  |false=>rfl
  |true=>have:=(aF _ _).1 hh;have:=s.out;omega) P (λz f=>by
   simp only[ρ] at f;rcases f with rfl|rfl|f
   .exact λb=>(a.iU _ b).2.1 rfl
   .exact a.iM.Ij
   .exact λb=>(a.iU z b).1 f) hRk (λz f=>by simp at f;omega) (gr':=n) (cr':=J) (by
   rcases v with e|e
   .rw[e];exact a.iM.Ij
   .exact λb=>by have:=a.iM.Jb _ b;omega) ζ (by rw [s.out];exact au I o (λk D b=>by cases D;simp at b;exact N9 b.symm))
 rw[s.out] at C;have hhF:(λh=>lQ A h || h == m)=lQ (aO A):=funext λq=>by unfold lQ;rw[←s.out];exact(yR A (by rw[s.out];exact Q) (by have:=s.out;omega) q).symm
 rw[hhF] at C;have hcs:(aO A).cs.length=A.cs.length:=by unfold aO;split<;>rfl
 refine⟨rfl,B.blk r (Z++[d.heap.size]) n,⟨r,Z++[d.heap.size],n,rfl,J,fH ptr m (some d.heap.size),fH G m [d.heap.size],fH L m [],T,⟨?_,?_,by rw[K];exact C,?_,by rw[hcs];exact a.tl,⟨l _ l0 a.bQ.1,acC,l _ l2 a.bQ.2.2⟩,⟨N9,a.sep.2.1,by have:=a.sep.2.2;omega⟩,λz f=>?_⟩,U⟩,P.mono (λy i=>?_),λy i=>?_⟩
 .rw[K];refine((((a.head.upd t a.bQ.1).upd R σ).upd c (by simp;exact a.sep.1)).set 1 _).ext (λj E=>?_);rcases(ω:j=0\/j=1\/j=2) with rfl|rfl|rfl<;>rfl
 .exact((hC.ag R).upd c (λz f b=>by simp at f;exact(Tw z b).1 f)).upd o (λz f b=>by simp at f;exact(Tw z b).2 f)
 .exact(((a.AJ.upd t a.bQ.2.2).upd R σ).upd c (by simp;exact a.sep.2.2)).upd o (by simp;exact a.sep.2.1)
 .rcases τ.1 f with h|h
  .exact⟨l z (a.iM.Jb z h) (a.iU z h).1,(a.iU z h).2⟩
  .simp at h;subst h;exact⟨λb=>by have:=gK _ b;omega,ω,ω⟩
 .simp only[HB.blk,ρ,τ] at i ⊢;rcases i with h|h|h
  .exact Α h
  .exact Β (Α h)
  .exact Β (Β (Β (Α h)))
 .simp only[HB.blk,ρ,τ,ς,or_false] at i ⊢;rcases i with h|h|h|h|h|h
  .exact Α (Α h)
  .rcases v with e|e
   .exact Α (Β (Α (by rw[h,e])))
   .exact Β ω
  .exact Α (Β (Β (Α h)))
  .rcases hF y h with h|h
   .exact Α (Β (Β (Β (Α h))))
   .exact Β h
  .exact Α (Β (Β (Β (Β h))))
  .exact Β ω
end
def qN.ready{d:Nat}{A:NS}{L:Nat->List Nat}(h:qN d A L)(v:2<=d)(B:A.Ok){g x:Nat}{k s:Int}(j:oF A g x=true):
  x∉L g/\(L g).length+1<=A.cs.length/\Hp (om (aN A g x k s)) d (L g)/\(∀y,y∈x::L g->bY (aN A g x k s) (y:Int)=true)/\(∀y,y∈x::L g->y<A.cs.length):=by
 obtain⟨f,n,w⟩:=(fB _ _ _).1 j;have o:x<A.cs.length:=by have:=(il _ _).1 n;omega
 have p:=(aF _ _).1 f;have l:∀y,(aN A g x k s).c y=if y=x then⟨g,k,s⟩ else A.c y:=λy=>by
  unfold aN;rw[Δ j,π,mg]
  grind
 have q:(aN A g x k s).cs.length=A.cs.length:=by unfold aN;rw[Δ j,fM]
 have b:x∉L g:=λt=>by
  have:=(h.len f t).2.1
  grind
 have c:∀y,y∈x::L g->y<A.cs.length:=λy a=>by
  rcases ρ.1 a with e|e
  .rw[e];exact o
  .exact(h.len f e).1
 refine⟨b,?_,qN.frame (h.hp g f) v (λy a=>by rw[l,Γ (λe=>b (by rw[←e];exact a))]),λy a=>?_,c⟩
 .have r:=nodup_range A.cs.length ((x::L g).map (λ(x:Nat)=>(x:Int))) (by
   have m:=Ζ.2 ⟨b,h.nd g f⟩;unfold List.Nodup at m ⊢;rw[List.pairwise_map];exact m.imp (λh e=>h ω)) (λz u=>by
   obtain⟨y,a,rfl⟩:=List.mem_map.1 u
   have:=c y a;omega)
  simpa using r
 .refine(aj _ _).2 ⟨by rw[q];exact c y a,?_⟩;rw[l]
  by_cases e:y=x
  .grind
  .rw[Γ e];rcases ρ.1 a with i|i
   .exact absurd i e
   .have:=(h.len f i).2.2;omega
section
variable{w w':World}{B:DB}{F Z:List Nat}{gr cr st:Nat}{A:NS}{ptr:Nat->Option Nat}{G L:Nat->List Nat}
def yw.clear(h:yw w B F Z gr cr A st ptr G L){g:Nat}(d:aW A g=true):∀z,z∈G g->z∉(UA B F A h.cells.mem).rd:=λz b c=>by
 have a:=h.iU z (h.iM.uo g d z b);rcases ρ.1 c with e|e
 .exact a.2 e
 .exact a.1 e
def yw.Cf(h:yw w B F Z gr cr A st ptr G L){g rp:Nat}(k:aW A g=true)(hp:ptr g=some rp){G' L':List Nat}(l:ae (G g++[B.c]) w w')(o:kg w' rp G' B.d L')(m:∀z,z∈G'->z∈G g\/w.heap.size<=z)(p:(UA B F A h.cells.mem).at_ w'):
  ∃a,yw w' B F (Z++G') gr cr A a ptr (fH G g G') (fH L g L'):=by
 obtain⟨q, -,a,n⟩:=p;have f:=h.clear k;have i:=h.cells.mem;have b:=h.lt;refine⟨a,⟨h.head.upd l (λc=>?_),n,h.iM.one k hp l (λz j=>?_) o m,h.bQ,λz j=>?_,h.dd⟩⟩
 .rcases τ.1 c with e|e
  .exact f _ e (ρ.2 (Α rfl))
  .simp at e;exact h.bQ.1 (by rw[e];exact i)
 .rcases τ.1 j with e|e
  .exact Α e
  .simp at e;refine Β ⟨λd=>h.bQ.2.1 (by rw[←d,e];exact i),λc=>(h.iU z c).1 (by rw[e];exact i)⟩
 .rcases τ.1 j with e|e
  .exact h.iU z e
  .rcases m z e with d|d
   .exact h.iU z (h.iM.uo g k z d)
   .exact⟨λc=>by have:=b z (by simp[DB.blk,c]);omega,λr=>by have:=b B.n0 (by simp[DB.blk]);omega⟩
def AddR(B:DB)(F Z:List Nat)(gr cr:Nat)(A':NS)(st:Nat)(ptr:Nat->Option Nat)(G L:Nat->List Nat)(g rp x:Nat)(w2:World):Prop:=yw w2 B F Z gr cr A' st ptr G L/\∀Y,ae [] w2 Y->
   Calls prog 139 #[rp,.iface 122 (.pointer (some B.n0)),(x:Int)] Y λe w'=>e=.returned true/\∃G' L',kg w' rp G' B.d L'/\L'.Perm (x::L g)/\Hp (om A') B.d L'/\(∃hc,(UA B F A' hc).at_ w')/\ae (G g++[B.c]) Y w'/\∀z,z∈G'->z∈G g\/Y.heap.size<=z
def JE(h:mU w B F Z gr A st)(g x:Nat)(k s:Int)(hk:-9223372036854775808<=k/\k<=9223372036854775807/\0<=s/\s<=18446744073709551615)(o:oF A g x=true):
  Calls prog 125 #[B.n0,(g:Int),(x:Int),.agg #[k,.int .u64 s]] w λe w'=>e=.returned true/\Goes (B.blk F Z gr) w w' (λF'=>∃Z' u,F'=B.blk F Z' gr/\mU w' B F Z' gr (aN A g x k s) u):=by
 obtain⟨cr,ptr,G,L,a,v⟩:=h;have f:=(fB _ _ _).1 o;have P:=(aF _ _).1 f.1;have d:=a.cells.ok;have Q:=d.c1;obtain⟨r1,r2,r3,r4,r5⟩:=v.ready a.dd.1 d (k:=k) (s:=s) o;obtain⟨rp,hp,hR⟩:=a.iM.row g f.1;have R:(aN A g x k s).hs=A.hs:=by unfold aN;rw[Δ o];rfl
 have C:aW (aN A g x k s) g=true:=by have:=f.1;unfold aW at this ⊢;rw[R];exact this
 have Js:∀X b,ae [] w X->aD b B.c F (aN A g x k s) st->ae F X b->AddR B F Z gr cr (aN A g x k s) st ptr G L g rp x b:=by
  intro X b J r c;have j:=(a.ag J).cK c r (λx hx=>Α hx) R;refine⟨j,λY hY=>?_⟩;have I:=j.ag hY;obtain⟨rp',E,O⟩:=I.iM.row g C;rw[hp] at E;cases E;have UE:kg Y rp (G g) B.d (L g):=O;refine(JD (UA B F (aN A g x k s) I.cells.mem) I.ord UE a.dd ω r3 x r1 (v.nd g f.1) r4 (λy hy=>by have:=r5 y hy;omega) (I.clear C)).mono ?_;rintro e w' ⟨rfl,G',L',h1,h2,h3,h4,h5,h6⟩;exact⟨rfl,G',L',h1,h2,h3,⟨_,h4⟩,h5,h6⟩
 have V5:∀W (i:ae [] w W),Calls prog 138 #[B.c,(g:Int),(x:Int),.agg #[k,.int .u64 s]] W λe b=>e=.returned true/\ae F W b/\AddR B F Z gr cr (aN A g x k s) st ptr G L g rp x b:=λW i=>(oQ (a.ag i).cells g x k s hk o).mono (λe b h=>by
  obtain⟨rfl,r,c⟩:=h
  exact ⟨rfl,c,Js W b i r c⟩)
 have c0:=a.h0;have c2:=a.h2;have cg:=a.iM.cell ω hp;have l:=a.lt;have HX:=χ (ψ a (ψ v (ψ d (ψ o (ψ hp (ψ C l))))));have n1:B.n0∉F++Z:=λq=>by rcases τ.1 q with e|e;exact a.bQ.1 e;exact(a.iU _ e).2 rfl
 have n2:gr∉F++Z:=λq=>by rcases τ.1 q with e|e;exact a.bQ.2.1 e;exact a.iM.Ij e
 have n3:∀z,z∈F++Z->z<w.heap.size:=λz q=>l z (by simp only[DB.blk,ρ,τ] at q ⊢;exact Β (Β q));have hgI:(g:Int)<(A.hs.length:Int):=ω;have H:∀z,z∈G g++[B.c]->z∈F++Z:=λz n=>by
  rcases τ.1 n with e|e
  .exact τ.2 (Β (a.iM.uo g f.1 z e))
  .simp at e;rw[e];exact τ.2 (Α a.cells.mem)
 clear a v d o hp C l hR r1 r3 r4 r5 f P r2 Q R;generalize A.hs.length=m at *
 go_enter func125,ntmps125
 go_upto_region 1 with(fail)
 refine aU (λW=>W.cell? w.heap.size=some (k:V)/\W.cell? ⟨w.heap.size,1,none⟩=some (.int .u64 s)/\ae [] w W) ⟨γ,γ,β⟩ ?_;rintro W ⟨x0,x1,i⟩;have hb:w.heap.size∉F++Z:=λq=>by have:=n3 _ q;omega
 have e0:∀X,ae (F++Z) W X->X.cell? w.heap.size=some (k:V):=λX h=>h.kept x0 hb;have e1:∀X,ae (F++Z) W X->X.cell? ⟨w.heap.size,1,none⟩=some (.int .u64 s):=λX h=>h.kept x1 hb;have e2:∀X,ae (F++Z) W X->X.cell? B.n0=some (B.c:V):=λX h=>h.kept (i.was c0) n1;have e3:∀X,ae (F++Z) W X->X.cell? ⟨B.n0,2,none⟩=some (.slice (some (gr:Nat)) m cr):=λX h=>h.kept (i.was c2) n1;have e4:∀X,ae (F++Z) W X->X.cell? ⟨gr,g,none⟩=some ((rp:Nat):V):=λX h=>h.kept (i.was cg) n2;have HW:=χ i
 have Oi:=λX (J:ae [] W X)=>V5 X (i.trans J);clear x0 x1 i V5 c0 c2 cg
 go_region_held3 (ae (F++Z) W) (exact ν)
  (first
   |(((with_reducible refine(Oi _ ν).mono ?_));rintro e b ⟨rfl,c,j,Tu⟩;(have S:ae (F++Z) W b:=ae.trans ν (c.mono (λz n=>τ.2 (Α n)))))
   | (((with_reducible refine (Tu _ ν).mono ?_));rintro e w3 ⟨rfl,G',L',Pm,K,M,t,D,N⟩;(have T:ae (F++Z) W w3:=ae.trans ν (D.mono H))))
 obtain⟨a,v,d,o,hp,C,l⟩:=HX.out;obtain⟨hc3,t⟩:=t;have p:∀z,z∈G'->z∈G g\/b.heap.size<=z:=N;have ve:ae (G g++[B.c]) b w3:=ae.trans ν D;obtain⟨u,jH⟩:=j.Cf C hp ve Pm p t;have U:=v.put a.dd.1 d o K M;go_wp2;go_ret;have hsz:=(HW.out).size;have hsz2:=S.size;refine⟨rfl,B.blk F (Z++G') gr,⟨Z++G',u,rfl,cr,ptr,_,_,jH,U.1⟩,((HW.out).mono σ).trans (T.mono (λz n=>?_)),λz n=>?_⟩
 .simp only[DB.blk,ρ,τ] at n ⊢;exact Β (Β n)
 .simp only[DB.blk,ρ,τ] at n ⊢;rcases n with h|h|h|h|h
  .exact Α (Α h)
  .exact Α (Β (Α h))
  .exact Α (Β (Β (Α h)))
  .exact Α (Β (Β (Β h)))
  .rcases p z h with h|h
   .have:=H z (τ.2 (Α h));rcases τ.1 this with h|h
    .exact Α (Β (Β (Α h)))
    .exact Α (Β (Β (Β h)))
   .exact Β ω
end
section
variable{w w':World}{B:HB}{F Z:List Nat}{gr cr st:Nat}{A:NS}{ptr:Nat->Option Nat}{G L:Nat->List Nat}{T:List Nat}
def SdI.turn{A':NS}{g:Nat}{l T':List Nat}(h:SdI A L T)(d:qN 2 A' (fH L g l))(f:∀k:Nat,aW A' k=aW A k)(o:aW A g=true)(i:∀j x,l[j]?=some x->T'.getD x 0=j)(m:∀x,x∉l->x∉L g->T'.getD x 0=T.getD x 0)(n:∀k x,k≠g->aW A k=true->x∈L k->x∉l/\x∉L g):SdI A' (fH L g l) T':=by
 refine⟨d,λk b j x a=>?_⟩;rw[f] at b
 by_cases e:k=g
 .subst e;rw[bM] at a;exact i j x a
 .rw[bg _ _ e] at a;have c:=n k x e b (Η a);rw[m x c.1 c.2];exact h.xU k b j x a
def qN.apart(h:qN 2 A L){k g x:Nat}(e:k≠g)(b:aW A k=true)(c:aW A g=true)(d:x∈L k):x∉L g:=λa=>by
 have f:=(h.mem k x b).1 d;have i:=(h.mem g x c).1 a;omega
def PuR(B:HB)(F Z:List Nat)(gr cr:Nat)(A':NS)(st:Nat)(ptr:Nat->Option Nat)(G L:Nat->List Nat)(T:List Nat)(g rp x:Nat)(v:Value)(w2:World):Prop:=ShM w2 B F Z gr cr A' st ptr G L T/\∀Y,ae [] w2 Y->
   Calls prog 269 #[.iface 298 (.pointer (some rp)),.iface 3 (.int .i64 (x:Int))] Y λe w'=>e=.returned (.tuple #[])/\PuE Y B F A' rp v (L g) T x w'
def F7(h:ShAt w B F Z gr A st)(g x:Nat)(k s:Int)(hk:-9223372036854775808<=k/\k<=9223372036854775807/\0<=s/\s<=18446744073709551615)(n:oF A g x=true):
  Calls prog 263 #[B.n0,(g:Int),(x:Int),.agg #[k,.int .u64 s]] w λe w'=>e=.returned true/\Goes (B.blk F Z gr) w w' (λF'=>∃Z' H,F'=B.blk F Z' gr/\ShAt w' B F Z' gr (aN A g x k s) H):=by
 obtain⟨cr,ptr,G,L,T,a,l⟩:=h;have c:=(fB _ _ _).1 n;have hgN:=(aF _ _).1 c.1;have i:=a.cells.ok;obtain⟨r1,r2,r3,r4,r5⟩:=l.di.ready ω i (k:=k) (s:=s) n;have K:(aN A g x k s).hs=A.hs:=by unfold aN;rw[Δ n];rfl
 have Nc:(aN A g x k s).cs.length=A.cs.length:=by unfold aN;rw[Δ n];exact fM _ _ _
 have R:aW (aN A g x k s) g=true:=by have:=c.1;unfold aW at this ⊢;rw[K];exact this
 have u:∀y,y∈L g->bY (aN A g x k s) (y:Int)=true/\y<T.length:=λy S=>⟨r4 y (by simp[S]),by rw[a.tl];exact r5 y (by simp[S])⟩
 obtain⟨rp,hp,v, -, -,O, -⟩:=a.iM.row g c.1;have Js:∀X f,ae [] w X->aD f B.c F (aN A g x k s) st->ae F X f->PuR B F Z gr cr (aN A g x k s) st ptr G L T g rp x v f:=by
  intro X f hX D b;have o:=(a.ag hX).cK b D (λx hx=>Α hx) K Nc;refine⟨o,λY hY=>?_⟩;obtain⟨rp',v',P,Q,hP⟩:=(o.ag hY).pile R u (l.di.nd g c.1) (l.xU g c.1);rw[hp] at P;cases P;rw[O] at Q;have ev:v'.ownBlock.toList=v.ownBlock.toList:=(List.cons.inj Q).2.symm;refine(Eh hP x r1 (r4 x σ) (by rw[a.tl];exact r5 x σ) (by rw[a.tl];omega) r3).mono ?_;rintro e w' ⟨rfl,U,cap,L',T',q1,N,q3,q4,q5,q6,q7⟩;refine⟨rfl,U,cap,L',T',q1,N,q3,q4,q5,by rw[←ev];exact q6,?_⟩;rcases q7 with e|e
  .left;have:U∈v.ownBlock.toList:=by rw[←ev];exact Option.mem_toList.2 e
   exact Option.mem_toList.1 this
  .exact Β e
 have V5:∀W (j:ae [] w W),Calls prog 138 #[B.c,(g:Int),(x:Int),.agg #[k,.int .u64 s]] W λe f=>e=.returned true/\ae F W f/\PuR B F Z gr cr (aN A g x k s) st ptr G L T g rp x v f:=λW j=>(oQ (a.ag j).cells g x k s hk n).mono (λe f h=>by
  obtain⟨rfl,D,b⟩:=h
  exact ⟨rfl,b,Js W f j D b⟩)
 have c0:=a.h0;have c2:=a.h1;have cg:=a.iM.cell ω hp;have p:=a.lt;have HX:=χ (ψ a (ψ l (ψ i (ψ n (ψ hp (ψ R (ψ p (ψ O (ψ c.1 (ψ K Nc))))))))));have n1:B.n0∉F:=a.bQ.1;have n2:gr∉F:=a.bQ.2.1;have n3:∀z,z∈F->z<w.heap.size:=λz J=>p z (by simp only[HB.blk,ρ,τ];exact Β (Β (Β (Α J))));have hgI:(g:Int)<(A.hs.length:Int):=ω;clear a l i n hp R p r1 r3 r4 r5 c hgN r2 K Nc Js u O;generalize A.hs.length=m at *
 go_enter func263,ntmps263
 go_upto_region 1 with(fail)
 refine aU (λW=>W.cell? w.heap.size=some (k:V)/\W.cell? ⟨w.heap.size,1,none⟩=some (.int .u64 s)/\ae [] w W) ⟨γ,γ,β⟩ ?_;rintro W ⟨x0,x1,j⟩;have hb:w.heap.size∉F:=λJ=>by have:=n3 _ J;omega
 have e0:∀X,ae F W X->X.cell? w.heap.size=some (k:V):=λX h=>h.kept x0 hb;have e1:∀X,ae F W X->X.cell? ⟨w.heap.size,1,none⟩=some (.int .u64 s):=λX h=>h.kept x1 hb;have e2:∀X,ae F W X->X.cell? B.n0=some (B.c:V):=λX h=>h.kept (j.was c0) n1;have M:∀X,ae F W X->X.cell? ⟨B.n0,1,none⟩=some (.slice (some (gr:Nat)) m cr):=λX h=>h.kept (j.was c2) n1;have e4:∀X,ae F W X->X.cell? ⟨gr,g,none⟩=some ((rp:Nat):V):=λX h=>h.kept (j.was cg) n2;have HW:=χ j;have Oi:=λX (hX:ae [] W X)=>V5 X (j.trans hX)
 clear x0 x1 j V5 c0 c2 cg
 go_region_held3 (ae F W) (exact ν)
  (first
   | (((with_reducible refine (Oi _ ν).mono ?_));rintro e f ⟨rfl,b,o,Tu⟩;(have r:ae F W f:=ae.trans ν b)))
 have a3:=M f r;have a4:=e4 f r;have HV:=χ r;clear e0 e1 e2 M e4 Oi r b
 go_wp2_with ((((with_reducible refine(Tu _ (ae.refl _ _)).mono ?_));rintro e w3 ⟨rfl,hQ⟩))
 go_ret;obtain⟨a,l,i,n,hp,R,p,O,E,K,Nc⟩:=HX.out;obtain⟨U,cap,L',T',q1,N,q3,q4,q5,q6,q7⟩:=hQ;have hPE:=q1.any;have C:∀z,z∈rp::v.ownBlock.toList->z∈G g:=λz d=>by rw[O];exact d
 obtain ⟨H,jH⟩:=o.Cf (g:=g) R hp q6 (λz d=>by
  simp only[ρ] at d;rcases d with e|e|e|e
  .exact Α (C z (by simp[e]))
  .exact Β (Α e)
  .exact Β (Β e)
  .exact Α (C z (Λ _ e))) (C rp σ) hPE q5 (λk hk=>by
  cases hk;rcases q7 with e|e
  .exact Α (C _ (Λ _ (Option.mem_toList.2 e)))
  .exact Β e)
 have hI3:=l.di.put ω i n N q3
 have hsd:SdI (aN A g x k s) (fH L g L') T':=l.turn hI3.1 (λq=>by unfold aW;rw [K]) E q1.xU (λy h1 h2=>q4 y (λJ=>h1 (N.mem_iff.2 J))) (λq y e hq S=>by
  have h2:=l.di.apart e hq E S;refine⟨λJ=>?_,h2⟩;rcases ρ.1 (N.mem_iff.1 J) with M|M
  .subst M;have h4:=(l.di.mem q y hq).1 S;have h5:=((fB _ _ _).1 n).2.2;have h6:=(aF _ _).1 hq;rw[(aj A y).2 ⟨h4.1,ω⟩] at h5;cases h5
  .exact h2 M)
 have hsz:=HW.out.size;have hsz2:=HV.out.size;have I:∀z,z∈F->z∈B.blk F Z gr:=λz d=>by simp only[HB.blk,ρ,τ];exact Β (Β (Β (Α d)))
 have t:∀z,z∈G g->z∈B.blk F Z gr:=λz d=>by simp only[HB.blk,ρ,τ];exact Β (Β (Β (Β (a.iM.uo g E z d))))
 refine⟨rfl,B.blk F (Z++(rp::Option.toList (some U))) gr,⟨_,H,rfl,cr,ptr,_,_,T',jH,hsd⟩,((HW.out.mono σ).trans (HV.out.mono I)).trans (q6.mono (λz d=>?_)),λz d=>?_⟩
 .simp only[ρ] at d;rcases d with e|e|e|e
  .exact t z (C z (by simp[e]))
  .simp[HB.blk,e]
  .exact I z (by rw[e];exact a.cells.mem)
  .exact t z (C z (Λ _ e))
 .simp only[HB.blk,ρ,τ,Option.toList_some,ς,or_false] at d;rcases d with h|h|h|h|h|h|h
  .left;simp[HB.blk,h]
  .left;simp[HB.blk,h]
  .left;simp[HB.blk,h]
  .exact Α (I z h)
  .left;simp[HB.blk,h]
  .exact Α (t z (C z (by simp[h])))
  .rcases q7 with e|e
   .exact Α (t z (C z (Λ _ (by rw[h];exact Option.mem_toList.2 e))))
   .exact Β ω
end
def qN.Ph{d:Nat}{A:NS}{L:Nat->List Nat}(h:qN d A L)(v:2<=d){g x i:Nat}{k s:Int}(E:iX A x k s=true)(w:aW A g=true)(F:(L g)[i]?=some x):
  fI (om (aA A x k s)) d (L g) i/\Below (om (aA A x k s)) d (L g) i x:=by
 have o:=Η F;have I:=(h.mem g x w).1 o;have J:=vk E I.1;have p:=wJ E;rw[π] at p;have z:=h.nd g w;obtain⟨G,f⟩:=List.getElem?_eq_some_iff.1 F;have c:∀y,y≠x->(aA A x k s).c y=A.c y:=λy e=>by rw[J,Γ e]
 have R:(aA A x k s).c x=⟨(A.c x).i,k,s⟩:=by grind
 have l:∀y,y∈(L g).eraseIdx i->y≠x:=λy N e=>by
  obtain⟨q,H,m⟩:=List.mem_eraseIdx_iff_getElem?.1 N;obtain⟨g1,n⟩:=List.getElem?_eq_some_iff.1 m;exact H ((List.getElem_inj z).1 (n.trans (e.trans f.symm)))
 have B:=h.hp g w;refine⟨(B.hole (jh A) v G).frame (λa b O P u=>dY.2 ((fC (c a (l a O)) (c b (l b P))).2 (dY.1 u))) v,λj D Q hp=>?_⟩;have C:=B j D Q;have K:(L g).getD (par d j) 0=x:=by grind
 rw[K] at C;have r:j≠i:=λe=>by have:=fw v D;omega
 have t:(L g).getD j 0≠x:=λe=>by
  have M:(L g)[j]?=some x:=by grind
  obtain⟨g1,n⟩:=List.getElem?_eq_some_iff.1 M;exact r ((List.getElem_inj z).1 (n.trans f.symm))
 exact dY.2 (nu (dY.1 C) (c _ t) (by grind))
section
variable{w w':World}{B:DB}{F Z:List Nat}{gr cr st:Nat}{A:NS}{ptr:Nat->Option Nat}{G L:Nat->List Nat}
def VV(h:mU w B F Z gr A st)(x:Nat)(k s:Int)(hk:-9223372036854775808<=k/\k<=9223372036854775807/\0<=s/\s<=18446744073709551615)(M:iX A x k s=true):
  Calls prog 119 #[B.n0,(x:Int),.agg #[k,.int .u64 s]] w λe w'=>e=.returned true/\Goes (B.blk F Z gr) w w' (λF'=>∃Z' E,F'=B.blk F Z' gr/\mU w' B F Z' gr (aA A x k s) E):=by
 obtain⟨cr,ptr,G,L,d,r⟩:=h;have H:=d.cells.ok;have hcs:=H.c1;have I:=tN M;have c:=(aj _ _).1 I;have a:=iH H I;rw[π] at a;obtain⟨g,hg⟩:∃g:Nat,(A.c x).i=g:=⟨(A.c x).i.toNat,ω⟩;rw[hg] at a;have hgN:=(aF _ _).1 a;have n:x∈L g:=(r.mem g x a).2 ⟨c.1,hg⟩;obtain⟨i,hi,N⟩:=List.mem_iff_getElem.1 n;have J:(L g)[i]?=some x:=by rw[ε hi,N]
 obtain⟨Yb,O⟩:=r.Ph d.dd.1 M a J;have qU:(aA A x k s).hs=A.hs:=mX _ _ _ _;have v:aW (aA A x k s) g=true:=by have:=a;unfold aW at this ⊢;rw[qU];exact this
 have j:bY (aA A x k s) (x:Int)=true:=(aj _ _).2 ⟨by rw[gD];exact c.1,by rw[iW M c.1];exact c.2⟩;have f:((aA A x k s).c x).i=g:=by rw[iW M c.1];exact hg
 have J8:∀y,y∈L g->bY (aA A x k s) (y:Int)=true:=λy hy=>by
  have h1:=(r.mem g y a).1 hy;exact(aj _ _).2 ⟨by rw[gD];exact h1.1,by rw[iW M c.1];omega⟩
 have R:∀y,y∈L g->y<=65536:=λy hy=>by have:=((r.mem g y a).1 hy).1;omega
 have VH:=r.many a;obtain⟨rp,hp, -⟩:=d.iM.row g a;have Ty:=λW (C:ae [] w W)=>iR (d.ag C).cells x k s hk M;have l:=λX t (T:ae [] w X) (hC2:aD t B.c F (aA A x k s) st) (D:ae F X t)=>(d.ag T).cK D hC2 (λx J=>Α J) qU;have V9:∀Y,yw Y B F Z gr cr (aA A x k s) st ptr G L->Calls prog 132 #[(rp:Nat),.iface 122 (.pointer (some B.n0)),(x:Int)] Y λe w'=>e=.returned true/\∃L' hc,kg w' rp (G g) B.d L'/\L'.Perm (L g)/\Hp (om (aA A x k s)) B.d L'/\(UA B F (aA A x k s) hc).at_ w'/\ae (G g++[B.c]) Y w':=by
  intro Y U;obtain⟨rp',P,hRY⟩:=U.iM.row g v;rw[hp] at P;cases P;have UE:kg Y rp (G g) B.d (L g):=hRY;refine(MQ (UA B F (aA A x k s) U.cells.mem) U.ord UE d.dd ω i x J (r.nd g a) Yb O J8 R (U.clear v)).mono ?_;rintro e w' ⟨rfl,L',h1,h2,h3,h4,h5⟩;exact⟨rfl,L',_,h1,h2,h3,h4,h5⟩
 have c0:=d.h0;have c2:=d.h2;have cg:=d.iM.cell ω hp;have p:=d.lt;have n0F:=d.bQ.1;have HX:=χ (ψ d (ψ r (ψ hp (ψ a (ψ v (ψ n (ψ p (ψ l (ψ f j)))))))));have n3:∀z,z∈F->z<w.heap.size:=λz hm=>p z (by simp only[DB.blk,ρ,τ];exact Β (Β (Α hm)));clear d r H hcs I c a hgN n hi N J Yb O qU v j f J8 R VH hp p l;generalize A.hs.length=m at *
 go_enter func119,ntmps119
 go_upto_region 1 with(fail)
 refine aU (λW=>W.cell? w.heap.size=some (k:V)/\W.cell? ⟨w.heap.size,1,none⟩=some (.int .u64 s)/\ae [] w W) ⟨γ,γ,β⟩ ?_;rintro W ⟨x0,x1,C⟩;have hb:w.heap.size∉F:=λhm=>by have:=n3 _ hm;omega
 have e0:∀X,ae F W X->X.cell? w.heap.size=some (k:V):=λX h=>h.kept x0 hb;have e1:∀X,ae F W X->X.cell? ⟨w.heap.size,1,none⟩=some (.int .u64 s):=λX h=>h.kept x1 hb;have e2:∀X,ae F W X->X.cell? B.n0=some (B.c:V):=λX h=>h.kept (C.was c0) n0F;have HW:=χ (ψ C (ψ c2 cg))
 have J5:∀X (T:ae [] W X),Calls prog 131 #[B.c,(x:Int),.agg #[k,.int .u64 s]] X λe t=>e=.returned true/\yw t B F Z gr cr (aA A x k s) st ptr G L/\ae F X t:=λX T=>(Ty X (C.trans T)).mono (λe t h=>⟨h.1,HX.out.2.2.2.2.2.2.2.1 X t (C.trans T) h.2.1 h.2.2,h.2.2⟩);clear Ty x0 x1 C c0 c2 cg
 go_region_held3 (ae F W) (exact ν)
  (first
   | (((with_reducible refine (J5 _ ν).mono ?_));rintro e t ⟨rfl,l,D⟩;(have hv2:ae F W t:=ae.trans ν D)))
 obtain⟨d,r,hp,a,v,n,p,Q,f,j⟩:=HX.out;have kh:=bX l.cells x j;rw[f] at kh;have q0:=l.h0;have jH:=λq (u:aD q B.c F (aA A x k s) st) (b:ae F t q)=>l.cK b u (λx J=>Α J) rfl;have hcg3:=λq u b=>(jH q u b).iM.cell (g:=g) (by have:=(aF _ _).1 v;omega) hp;have hh3:=λq u b=>(jH q u b).h2;have kr3:=λq u b=>V9 q (jH q u b);have hgI2:(g:Int)<((aA A x k s).hs.length:Int):=by have:=(aF _ _).1 v;omega
 clear d r a v n p Q f j V9 J5 e0 e1 e2 l;generalize (aA A x k s).hs.length=m2 at *
 go_wp2_with (first
  |(((with_reducible refine kh.mono ?_));rintro e q ⟨rfl,u,b⟩;(have kr4:=kr3 q u b))
  | (((with_reducible refine kr4.mono ?_));rintro e w4 ⟨rfl,L',hc,hR4,hp4,hH4,hO4,iK⟩))
 go_ret;obtain⟨d,r,hp,a,v,n,p, -, -, -⟩:=HX.out;have S:=jH q u b;obtain⟨E,uD⟩:=S.Cf v hp iK hR4 (λz o=>Α o) hO4;have hI4:=r.low d.dd.1 M a n hp4 hH4;have hgz:∀z,z∈G g++[B.c]->z∈F++Z:=λz o=>by
  rcases τ.1 o with e|e
  .exact τ.2 (Β (d.iM.uo g a z e))
  .simp at e;rw[e];exact τ.2 (Α d.cells.mem)
 have K:∀z,z∈F++Z->z∈B.blk F Z gr:=λz o=>by
  simp only[DB.blk,ρ,τ] at o ⊢;exact Β (Β o)
 refine⟨rfl,B.blk F (Z++G g) gr,⟨Z++G g,E,rfl,cr,ptr,_,_,uD,hI4⟩,(((HW.out.1.mono σ).trans (hv2.mono (λz o=>K z (τ.2 (Α o))))).trans (b.mono (λz o=>K z (τ.2 (Α o))))).trans (iK.mono (λz o=>K z (hgz z o))),λz o=>Α ?_⟩;simp only[DB.blk,ρ,τ] at o ⊢;rcases o with h|h|h|h|h
 .exact Α h
 .exact Β (Α h)
 .exact Β (Β (Α h))
 .exact Β (Β (Β h))
 .exact Β (Β (Β (d.iM.uo g a z h)))
def RemR(B:DB)(F Z:List Nat)(gr cr:Nat)(A:NS)(st:Nat)(ptr:Nat->Option Nat)(G L:Nat->List Nat)(g rp x:Nat)(w2:World):Prop:=
 yw w2 B F Z gr cr A st ptr G L/\∀Y,ae [] w2 Y->Calls prog 133 #[rp,.iface 122 (.pointer (some B.n0)),(x:Int)] Y λe w'=>e=.returned true/\∃L' hc,kg w' rp (G g) B.d L'/\(x::L').Perm (L g)/\Hp (om A) B.d L'/\(UA B F A hc).at_ w'/\ae (G g++[B.c]) Y w'/\
  ∀V,ae [] w' V->Calls prog 134 #[B.c,(x:Int)] V λe w''=>e=.returned true/\ae F V w''/\∃st',aD w'' B.c F (aS A x) st'
def Ad(h:mU w B F Z gr A st)(x:Nat)(o:bY A (x:Int)=true):
  Calls prog 120 #[B.n0,(x:Int)] w λe w'=>e=.returned true/\Goes (B.blk F Z gr) w w' (λF'=>∃Z' n,F'=B.blk F Z' gr/\mU w' B F Z' gr (aS A x) n):=by
 obtain⟨cr,ptr,G,L,b,j⟩:=h;have r:=b.cells.ok;have Q:=r.c1;have p:=(aj _ _).1 o;have a:=iH r o;rw[π] at a;obtain⟨g,O⟩:∃g:Nat,(A.c x).i=g:=⟨(A.c x).i.toNat,ω⟩;rw[O] at a;have R:=(aF _ _).1 a;have i:x∈L g:=(j.mem g x a).2 ⟨p.1,O⟩;have VH:=j.many a;obtain⟨rp,hp, -⟩:=b.iM.row g a;have kh:∀W,ae [] w W->Calls prog 124 #[B.c,(x:Int)] W λe c=>e=.returned (.tuple #[(g:Int),true])/\ae F W c/\RemR B F Z gr cr A st ptr G L g rp x c:=λW hW=>by
  have k:=bX (b.ag hW).cells x o;rw[O] at k;refine k.mono ?_;rintro e c ⟨rfl,C,f⟩;have l:=(b.ag hW).cK f C (λx hx=>Α hx) rfl;refine⟨rfl,f,l,λY hY=>?_⟩;have u:=l.ag hY;obtain⟨rp',t,P⟩:=u.iM.row g a;rw[hp] at t;cases t;have UE:kg Y rp (G g) B.d (L g):=P;refine(Iz (UA B F A u.cells.mem) u.ord UE b.dd ω x i (j.nd g a) (j.hp g a) (λy hy=>(j.len a hy).2.1) (λy hy=>by have:=(j.len a hy).1;omega) (u.clear a)).mono ?_;rintro e w' ⟨rfl,L',h1,h2,h3,h4,h5⟩;refine⟨rfl,L',_,h1,h2,h3,h4,h5,λV hV=>?_⟩;obtain⟨-, -,n,hC⟩:=h4
  refine(ik (hC.ag hV) x o).mono ?_;rintro e w'' ⟨rfl,D,E⟩;exact⟨rfl,E,n,D⟩
 have c0:=b.h0;have c2:=b.h2;have cg:=b.iM.cell ω hp;have q:=b.lt;have HX:=χ (ψ b (ψ j (ψ hp (ψ a (ψ i q)))));have n1:B.n0∉F++Z:=λhm=>by rcases τ.1 hm with e|e;exact b.bQ.1 e;exact(b.iU _ e).2 rfl
 have n2:gr∉F++Z:=λhm=>by rcases τ.1 hm with e|e;exact b.bQ.2.1 e;exact b.iM.Ij e
 have hgI:(g:Int)<(A.hs.length:Int):=ω;have S:∀z,z∈G g++[B.c]->z∈F++Z:=λz d=>by
  rcases τ.1 d with e|e
  .exact τ.2 (Β (b.iM.uo g a z e))
  .simp at e;rw[e];exact τ.2 (Α b.cells.mem)
 clear b j r Q p a R i VH hp q;generalize A.hs.length=m at *
 go_enter func120,ntmps120
 go_upto_region 2 with((((with_reducible refine(kh _ β).mono ?_));rintro e c ⟨rfl,f,l,H⟩))
 have v:ae (F++Z) w c:=f.mono (λz d=>τ.2 (Α d));have e2:∀X,ae (F++Z) c X->X.cell? B.n0=some (B.c:V):=λX h=>(v.trans h).kept c0 n1;have e3:∀X,ae (F++Z) c X->X.cell? ⟨B.n0,2,none⟩=some (.slice (some (gr:Nat)) m cr):=λX h=>(v.trans h).kept c2 n1;have e4:∀X,ae (F++Z) c X->X.cell? ⟨gr,g,none⟩=some ((rp:Nat):V):=λX h=>(v.trans h).kept cg n2;clear c0 c2 cg kh f;have a3:=e3 c (ae.refl _ _);have a4:=e4 c (ae.refl _ _)
 go_wp2_with (first
   |(((with_reducible refine(H _ ν).mono ?_));rintro e I ⟨rfl,L',hc,Pm,J,K,M,s,WC⟩;(have T:ae (F++Z) c I:=ae.trans ν (s.mono S)))
   | (((with_reducible refine (WC _ ν).mono ?_));rintro e w4 ⟨rfl,iK,N,Xf⟩;(have U:ae (F++Z) c w4:=ae.trans T (iK.mono (λz d=>τ.2 (Α d))))))
 obtain⟨b,j,hp,a,i,q⟩:=HX.out;have ve:ae (G g++[B.c]) c I:=ae.trans ν s;have XU:ae F I w4:=ae.trans ν iK;obtain⟨n,jH⟩:=l.Cf a hp ve Pm (λz d=>Α d) M;have uD:=jH.cK XU Xf (λx hx=>Α hx) (jm _ _);have hI4:=j.drop b.dd.1 a i J K;go_ret;refine⟨rfl,B.blk F (Z++G g) gr,⟨Z++G g,N,rfl,cr,ptr,_,_,uD,hI4⟩,(v.trans U).mono (λz d=>?_),λz d=>Α ?_⟩
 .simp only[DB.blk,ρ,τ] at d ⊢;exact Β (Β d)
 .simp only[DB.blk,ρ,τ] at d ⊢;rcases d with h|h|h|h|h
  .exact Α h
  .exact Β (Α h)
  .exact Β (Β (Α h))
  .exact Β (Β (Β h))
  .exact Β (Β (Β (b.iM.uo g a z h)))
def DI(h:mU w B F Z gr A st)(g m:Nat)(d:dB A g=some m):
  Calls prog 122 #[B.n0,(g:Int)] w λe w'=>e=.returned (.tuple #[(m:Int),true])/\Goes (B.blk F Z gr) w w' (λF'=>∃j f,F'=B.blk F j gr/\mU w' B F j gr (aS A m) f):=by
 have b:=(jU d).2.2.2;have c:A.Ok:=by obtain⟨cr,ptr,G,L,l,o⟩:=h;exact l.cells.ok
 have a:aW A g=true:=by
  have:=iH c b;rw[π,(jU d).2.2.1] at this;exact this
 have i:=Ku h g a;rw[d,show og (some m)=(m:Int) from rfl,show(some m).isSome=true from rfl] at i;have kd:=Ad h m b;clear h d b c a
 go_enter func122,ntmps122
 go_wp2_with (first
  |((with_reducible refine aP i ?_))
  | (((with_reducible refine kd.mono ?_));rintro e n ⟨rfl,k⟩))
 go_ret2;exact⟨rfl,k⟩
end
section
variable{w w':World}{B:HB}{F Z:List Nat}{gr cr st:Nat}{A:NS}{ptr:Nat->Option Nat}{G L:Nat->List Nat}{T:List Nat}
def HB.Ap(B:HB){F Z:List Nat}{gr z:Nat}(a:z∈F):z∈B.blk F Z gr:=by simp only[HB.blk,ρ,τ];exact Β (Β (Β (Α a)))
def HB.CX(B:HB){F Z:List Nat}{gr z:Nat}(a:z∈Z):z∈B.blk F Z gr:=by simp only[HB.blk,ρ,τ];exact Β (Β (Β (Β a)))
def ReR(B:HB)(F Z:List Nat)(gr cr:Nat)(A:NS)(st:Nat)(ptr:Nat->Option Nat)(G L:Nat->List Nat)(T:List Nat)(g rp gs cap i x:Nat)(w2:World):Prop:=ShM w2 B F Z gr cr A st ptr G L T/\∀Y,ae [] w2 Y->
 Calls prog 268 #[.iface 298 (.pointer (some rp)),(i:Int)] Y λe w'=>e=.returned (.iface 3 (.int .i64 (x:Int)))/\ReE Y B F A rp gs cap (L g) T x w'/\
  ∀V,ae [] w' V->Calls prog 134 #[B.c,(x:Int)] V λe w''=>e=.returned true/\ae F V w''/\∃st',aD w'' B.c F (aS A x) st'
def yY(h:ShAt w B F Z gr A st)(x:Nat)(f:bY A (x:Int)=true):
  Calls prog 261 #[B.n0,(x:Int)] w λe w'=>e=.returned true/\Goes (B.blk F Z gr) w w' (λF'=>∃Z' t,F'=B.blk F Z' gr/\ShAt w' B F Z' gr (aS A x) t):=by
 obtain⟨cr,ptr,G,L,T,b,d⟩:=h;have hok:=b.cells.ok;have p:=(aj _ _).1 f;have a:=iH hok f;rw[π] at a;obtain⟨g,hg⟩:∃g:Nat,(A.c x).i=g:=⟨(A.c x).i.toNat,ω⟩;rw[hg] at a;have hgN:=(aF _ _).1 a;have n:x∈L g:=(d.di.mem g x a).2 ⟨p.1,hg⟩;obtain⟨i,hi,N⟩:=List.mem_iff_getElem.1 n;have E:(L g)[i]?=some x:=by rw[ε hi,N]
 have r:∀y,y∈L g->bY A (y:Int)=true/\y<T.length:=λy hy=>⟨(d.di.len a hy).2.1,by rw[b.tl];exact(d.di.len a hy).1⟩
 have hTx:T.getD x 0=i:=d.xU g a i x E;have Ti:x<T.length:=by rw[b.tl];exact p.1
 obtain⟨rp,v,hp,Ez,J⟩:=b.pile a r (d.di.nd g a) (d.xU g a);obtain⟨u,cap,hv, -⟩:=J.full ω;have o:G g=[rp,u]:=by rw[Ez,hv];rfl
 have kh:∀W,ae [] w W->Calls prog 124 #[B.c,(x:Int)] W λe j=>e=.returned (.tuple #[(g:Int),true])/\ae F W j/\ReR B F Z gr cr A st ptr G L T g rp u cap i x j:=λW hW=>by
  have k:=bX (b.ag hW).cells x f;rw[hg] at k;refine k.mono ?_;rintro e j ⟨rfl,hC2,c⟩;have s:=(b.ag hW).cK c hC2 (λx E=>Α E) rfl rfl;refine⟨rfl,c,s,λY hY=>?_⟩;obtain⟨rp',v',O,P,hP⟩:=(s.ag hY).pile a r (d.di.nd g a) (d.xU g a);rw[hp] at O;cases O;obtain⟨C,Q,hv',R⟩:=hP.full ω;have eg:C=u:=by
   rw[o,hv'] at P;have:([rp,u]:List Nat)=[rp,C]:=P;simp at this;exact this.symm
  subst eg;have hc:Q=cap:=by
   have r1:=R.h1;have ZQ:w.cell? ⟨rp,1,none⟩=some (.slice (some (C:Nat)) (L g).length cap):=by
    rw[←hv];exact J.hd.cellAt 1 ω rfl
   have VX:rp∉F:=J.s3.1;have r2:=((c.kept (hW.was ZQ) VX));have r3:=hY.was r2;rw[r1] at r3;simpa using r3
  subst hc;refine(J3 R i x E (d.di.hp g a)).mono ?_;rintro e w' ⟨rfl,M⟩;refine⟨rfl,M,λV hV=>?_⟩;obtain⟨L',T',hE, -⟩:=M;obtain⟨t,hC⟩:=hE.Io;refine(ik (hC.ag hV) x f).mono ?_;rintro e w'' ⟨rfl,hC',hu'⟩;exact⟨rfl,hu',t,hC'⟩
 have c0:=b.h0;have c2:=b.h1;have c3:=b.h2;have cg:=b.iM.cell ω hp;have ct:=b.IG x Ti;rw[hTx] at ct;have D:=b.lt;have n1:B.n0∉F:=b.bQ.1;have n2:gr∉F:=b.bQ.2.1;have n3:B.ga∉F:=b.bQ.2.2;have n4:B.n0∉[rp,u,B.ga,B.c]:=by
  have h1:=J.s1;have K:=J.sg u (by rw[hv];rfl);simp;exact⟨λe=>h1.2 e.symm,λe=>K.2.2.1 e.symm,λe=>b.sep.2.1 e.symm,λe=>n1 (by rw[e];exact b.cells.mem)⟩
 have hgI:(g:Int)<(A.hs.length:Int):=ω;have Dy:(x:Int)<(T.length:Int):=ω;have HX:=χ (ψ b (ψ d (ψ hp (ψ a (ψ n (ψ D (ψ o f)))))));clear b d hok f p a hgN n N E r hTx Ti hp Ez J hv o D hi hg;generalize A.hs.length=m at *;generalize T.length=nt at *
 go_enter func261,ntmps261
 go_upto_region 4 with((((with_reducible refine(kh _ β).mono ?_));rintro e j ⟨rfl,c,s,abl⟩))
 have a0:∀X,ae [] j X->X.cell? ⟨B.n0,1,none⟩=some (.slice (some (gr:Nat)) m cr):=λX I=>I.was (c.kept c2 n1);have a1:∀X,ae [] j X->X.cell? ⟨B.n0,2,none⟩=some (.slice (some B.ga) nt nt):=λX I=>I.was (c.kept c3 n1);have a2:∀X,ae [] j X->X.cell? ⟨gr,g,none⟩=some ((rp:Nat):V):=λX I=>I.was (c.kept cg n2);have a3:∀X,ae [] j X->X.cell? ⟨B.ga,x,none⟩=some ((i:Int):V):=λX I=>I.was (c.kept ct n3);have z0:=c.kept c0 n1;clear c0 c2 c3 cg ct kh;have b1:=a0 _ (ae.refl [] j);have b2:=a1 _ (ae.refl [] j);have b3:=a2 _ (ae.refl [] j)
 have b4:=a3 _ (ae.refl [] j)
 go_region_law
  (first
   | (go_simp;(with_reducible refine (abl _ ν).mono ?_);rintro e w3 ⟨rfl,M,WC⟩;(have H:ae [rp,u,B.ga,B.c] j w3:=by obtain ⟨_,_,_,_,_,_,_,hu⟩:=M;exact ae.trans ν hu);(have z1:=H.kept z0 n4)))
 all_goals
  go_wp2_with ((((with_reducible refine(WC _ ν).mono ?_));rintro e w4 ⟨rfl,iK,st4,Xf⟩))
  go_ret;obtain⟨b,d,hp,a,n,D,o,f⟩:=HX.out;obtain⟨L',T',hE,S,hH3,U,Sz, -⟩:=M;have XU:ae F w3 w4:=ae.trans ν iK;have Xr:∀z,z∈G g->z∈Z:=b.iM.uo g a
  obtain ⟨t,jH⟩:=s.Cf a hp H (λz l=>by
   simp only[ρ,ς,or_false] at l;rw[o];rcases l with e|e|e|e
   .exact Α (by simp[e])
   .exact Α (by simp[e])
   .exact Β (Α e)
   .exact Β (Β e)) (by rw [o];simp) hE Sz (λk hk=>by cases hk;rw [o];simp)
  have uD:=jH.cK XU Xf (λx E=>Α E) (jm _ _) (fF _ _)
  have hI4:=d.turn (d.di.drop ω a n S hH3) (λq=>by unfold aW;rw [jm]) a hE.xU (λy _ K=>U y K) (λq y e hq hy=>by
   have K:=d.di.apart e hq a hy
   exact ⟨λhm=>K (S.mem_iff.1 (Λ _ hm)),K⟩)
  refine⟨rfl,B.blk F (Z++(rp::Option.toList (some u))) gr,⟨_,st4,rfl,cr,ptr,_,_,T',uD,hI4⟩,((c.mono (λz l=>B.Ap l)).trans (H.mono (λz l=>?_))).trans (XU.mono (λz l=>B.Ap l)),λz l=>Α ?_⟩
  .simp only[ρ,ς,or_false] at l;rcases l with e|e|e|e
   .exact B.CX (Xr z (by rw[o];simp[e]))
   .exact B.CX (Xr z (by rw[o];simp[e]))
   .simp[HB.blk,e]
   .exact B.Ap (by rw[e];exact b.cells.mem)
  .simp only[HB.blk,ρ,τ,Option.toList_some,ς,or_false] at l;rcases l with h|h|h|h|h|h|h
   .simp[HB.blk,h]
   .simp[HB.blk,h]
   .simp[HB.blk,h]
   .exact B.Ap h
   .exact B.CX h
   .exact B.CX (Xr z (by rw[o];simp[h]))
   .exact B.CX (Xr z (by rw[o];simp[h]))
def Cn(h:ShAt w B F Z gr A st)(g:Int)(m:Nat)(j:dB A g=some m):
  Calls prog 262 #[B.n0,g] w λe w'=>e=.returned (.tuple #[(m:Int),true])/\Goes (B.blk F Z gr) w w' (λF'=>∃l i,F'=B.blk F l gr/\ShAt w' B F l gr (aS A m) i):=by
 obtain⟨q,rfl,a,b⟩:∃q:Nat,g=q/\aW A q=true/\bY A (m:Int)=true:=by
  obtain⟨cr,ptr,G,L,T,o,k⟩:=h;obtain⟨q,rfl,a,c⟩:=k.di.ZO j o.cells.ok;exact⟨q,rfl,a,(k.di.len a c).2.1⟩
 have d:=EW h q a;rw[j] at d;have kd:=λW (p:ae [] w W)=>yY (h.ag p) m b;clear h j b a;have f:Calls prog 266 #[B.n0,(q:Int)] w λe w'=>e=.returned (.tuple #[(m:Int),true])/\w'=w:=d;clear d
 go_enter func262,ntmps262
 go_wp2_with (first
  |((with_reducible refine aP f ?_))
  | (((with_reducible refine (kd _ (ae.refl _ _)).mono ?_));rintro e r ⟨rfl,n⟩))
 go_ret2;exact⟨rfl,n⟩
