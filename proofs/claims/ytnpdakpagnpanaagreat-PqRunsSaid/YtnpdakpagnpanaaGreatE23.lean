/-
  Lemmas.
-/
import Derived.Ground.Names2Prog
import Derived.Shelf.Slices.Clone
import Derived.Test.YtnpdakpagnpanaaGreatE07
set_option linter.all false
set_option maxHeartbeats 8000000
set_option maxRecDepth 10000
namespace Go.Proofs
open Go.Shelf
def Tryz.DZ:Go.Shelf.Ren:=⟨fun|15=>152|n=>n,fun|22=>77|3=>3|4=>4|n=>n,fun|n=>n⟩
def Tryz.Ew:Go.Proofs.Lays2.n15 Tryz.prog Tryz.DZ:={
 mixed:=by kernel_rfl
 f15:=Tryz.func152.trans (congrArg some (by kernel_rfl))
 t3:=Tryz.underlying3
 a3:=Tryz.isAgg3
 z3:=Tryz.sizeOf3
 v3:=Tryz.zeroValue3
 t4:=Tryz.underlying4
 a4:=Tryz.isAgg4
 z4:=Tryz.sizeOf4
 v4:=Tryz.zeroValue4
 t22:=Tryz.underlying77
 a22:=Tryz.isAgg77
 z22:=Tryz.sizeOf77
 v22:=Tryz.zeroValue77
 i3:=by kernel_rfl }
open Go.RowKit Go.Lib in
def Tryz.slices_Clone_int(b off n c:Nat)(a:List Int)(w:World)(f:n<=a.length)(d:n*8<=140737488355328)(g:∀j,j<a.length->w.cell? ⟨b,off+j,none⟩=some (.int .i64 (a.getD j 0))):
  Calls Tryz.prog 152 #[.slice (some ⟨b,off,none⟩) n c] w λe w'=>∃v',e=.returned v'/\w'.ownsRow w.heap.size 3 1 v' n ((a.take n).map (Value.int .i64))/\v'≠.slice none 0 0/\Below w.heap.size w w':=Any.slices_Clone_int Tryz.Ew b off n c a w f d g
open Go.RowKit Go.Lib in
def Tryz.slices_Clone_int_nil(n c:Nat)(w:World):
  Calls Tryz.prog 152 #[.slice none n c] w λe w'=>e=.returned (.slice none 0 0)/\w'=w:=Any.slices_Clone_int_nil Tryz.Ew n c w
end Go.Proofs
namespace Go.Proofs.YtnpdakpagnpanaaGreat
open Tryz
open Go Go.RowKit
/-! ### plainly -/
def Br(a b t f:Nat):Prop:=(t=a/\f=b)\/(t=b/\f=a)
section
variable{d:Nat}{A:NS}{L:Nat->List Nat}{a b t f:Nat}
def qN.sum(h:qN d A L)(B:2<=d)(o:fQ A a b=true)(l:Br a b t f):
  (L t++L f).Nodup/\(L t).length+(L f).length<=A.cs.length/\(∀y,y∈L t++L f->bY (az A a b) (y:Int)=true/\y<A.cs.length)/\Hp (om (az A a b)) d (L t)/\
  (∀x,x∈L t++L f↔x<A.cs.length/\((az A a b).c x).i=a):=by
 obtain⟨p,q,r⟩:=(dI _ _ _).1 o;have s:a≠b:=λe=>r (by rw[e]);have C:=(aF _ _).1 p;have D:=(aF _ _).1 q;have c:aW A t=true:=by rcases l with⟨e, -⟩|⟨e, -⟩<;>rw[e]<;>assumption
 have g:aW A f=true:=by rcases l with⟨-,e⟩|⟨-,e⟩<;>rw[e]<;>assumption
 have u:t≠f:=by rcases l with⟨e,e'⟩|⟨e,e'⟩<;>omega
 have m:∀x,x∈L t++L f↔x<A.cs.length/\((az A a b).c x).i=a:=λx=>by
  rw[τ,h.mem t x c,h.mem f x g,pO o]
  show _↔x<A.cs.length/\(if(A.c x).i=b/\x<A.cs.length then(a:Int) else(A.c x).i)=a
  rcases l with⟨rfl,rfl⟩|⟨rfl,rfl⟩
  .grind
  .grind
 have i:(L t++L f).Nodup:=by
  rw[θ];refine⟨h.nd t c,h.nd f g,λx v y k e=>?_⟩;have j:=(h.mem t x c).1 v;have E:=(h.mem f y g).1 k;rw[e] at j;omega
 refine⟨i,?_,λy k=>?_,?_,m⟩
 .have j:=nodup_range A.cs.length ((L t++L f).map (λ(x:Nat)=>(x:Int))) (by
   unfold List.Nodup at i ⊢;rw[List.pairwise_map];exact i.imp (λh e=>h ω)) (λz w=>by
   obtain⟨y,k,rfl⟩:=List.mem_map.1 w
   have:=((m y).1 k).1;omega)
  simpa using j
 .have j:=(m y).1 k;exact⟨(aj _ _).2 ⟨by rw[eU];exact j.1,by rw[j.2];omega⟩,j.1⟩
 .exact(h.hp t c).frame (λx y _ _ n=>dY.2 ((oW o _ _).2 (dY.1 n))) B
def qN.join(h:qN d A L)(m:2<=d)(i:fQ A a b=true)(p:Br a b t f){l:List Nat}(hp:l.Perm (L t++L f))(q:Hp (om (az A a b)) d l):qN d (az A a b) (fH L a l):=by
 obtain⟨n,r,s,u,o⟩:=h.sum m i p;have g:∀k:Nat,k≠a->aW (az A a b) k=true->aW A k=true/\k≠b:=λk e g=>by
  rw[rY i] at g
  grind
 refine⟨λk c=>?_,λk c=>?_,λk x c=>?_⟩
 .by_cases e:k=a
  .subst e;rw[bM];exact q
  .rw[bg _ _ e];exact(h.hp k (g k e c).1).frame (λx y _ _ j=>dY.2 ((oW i _ _).2 (dY.1 j))) m
 .by_cases e:k=a
  .subst e;rw[bM];exact hp.nodup_iff.2 n
  .rw[bg _ _ e];exact h.nd k (g k e c).1
 .rw[eU]
  by_cases e:k=a
  .subst e;rw[bM,hp.mem_iff];exact o x
  .rw[bg _ _ e,h.mem k x (g k e c).1,pO i]
   grind
end
def vX(f:Nat->Option Nat)(m h:Nat)(o:Option Nat):(mG f m).set h (zG o)=mG (fH f h o) m:=by
 apply List.ext_getElem?;intro j;rw[ύ,zm]
 by_cases a:j<m
 .rw[zW (f:=fH f h o) a,zW a]
  by_cases e:h=j
  .subst e;rw[Δ rfl,Δ a,bM]
  .rw[Γ e,bg _ _ (λb=>e b.symm)]
 .have c:(mG f m)[j]?=none:=List.getElem?_eq_none (by rw[zm];omega);have d:(mG (fH f h o) m)[j]?=none:=List.getElem?_eq_none (by rw[zm];omega)
  grind
def uz.CY{K:RwK}{ety:TypeId}{w w':World}{gr cr m:Nat}{has d:Nat->Bool}{Z:List Nat}{ptr:Nat->Option Nat}{G L:Nat->List Nat}{S G' L':List Nat}{a b t f pt:Nat}(h:uz K ety w gr cr m has Z ptr G L)(J:has a=true)(M:has b=true)(B:Br a b t f)
  (hp:ptr t=some pt) (r:w'.ownsRow 0 ety 1 (.slice (some gr) m cr) m (mG (fH (fH ptr a (some pt)) b none) m)) (y:a≠b)
  (C:ae S w w') (I:∀z,z∈S->z∈G t\/z∉Z) (D:K.at_ w' pt G' L') (E:∀z,z∈G'->z∈G t\/w.heap.size<=z) (N:∀k,d k=(has k && !(k == b))):
  uz K ety w' gr cr m d (Z++G') (fH (fH ptr a (some pt)) b none) (fH G a G') (fH L a L'):=by
 have H:=h.lt;have p:has t=true:=by rcases B with⟨e, -⟩|⟨e, -⟩<;>rw[e]<;>assumption
 have l:∀k,d k=true->has k=true/\k≠b:=λk l=>by
  grind
 have v:∀k,d k=true->k≠a->k≠t:=λk c o e=>by
  rcases B with⟨e', -⟩|⟨e', -⟩
  .grind
  .grind
 have x:∀k,d k=true->k≠a->∀z,z∈S->z∉G k:=λk c o z g n=>by
  rcases I z g with u|u
  .exact h.P6 t k p (l k c).1 (λe=>v k c o e.symm) z u n
  .exact u (h.uo k (l k c).1 z n)
 refine⟨r,λk c=>?_,λk c z g=>?_,λk j c o i z g=>?_,λz g=>?_,λn=>?_⟩
 .by_cases e:k=a
  .subst e;rw[bM,bM,bg _ _ y,bM];exact⟨pt,rfl,D⟩
  .rw[bg _ _ e,bg _ _ e,bg _ _ (l k c).2,bg _ _ e];obtain⟨q,s,F⟩:=h.row k (l k c).1;exact⟨q,s,K.upd F C (x k c e)⟩
 .by_cases e:k=a
  .subst e;rw[bM] at g;exact τ.2 (Β g)
  .rw[bg _ _ e] at g;exact τ.2 (Α (h.uo k (l k c).1 z g))
 .have A:∀k,d k=true->k≠a->∀z,z∈G'->z∉G k:=λk c e z g n=>by
   rcases E z g with u|u
   .exact h.P6 t k p (l k c).1 (λs=>v k c e s.symm) z u n
   .have:=h.Jb z (h.uo k (l k c).1 z n);omega
  by_cases e:k=a
  .subst e;rw[bM] at g;rw[bg _ _ (λe=>i e.symm)];exact A j o (λe=>i e.symm) z g
  .rw[bg _ _ e] at g
   by_cases s:j=a
   .subst s;rw[bM];exact λn=>A k c e z n g
   .rw[bg _ _ s];exact h.P6 k j (l k c).1 (l j o).1 i z g
 .rcases τ.1 g with c|c
  .exact Ψ (h.Jb z c) C.size
  .exact K.lt D z c
 .rcases τ.1 n with c|c
  .exact h.Ij c
  .rcases E _ c with o|o
   .exact h.Ij (h.uo t p _ o)
   .omega
/-! ### a row's length, all its things -/
def E9{w:World}{rp d:Nat}{G L:List Nat}(h:kg w rp G d L):Calls prog 142 #[rp] w λe w'=>e=.returned (L.length:Int)/\w'=w:=by
 obtain⟨mb,f,v,b,c,g,i,m,j,rfl⟩:=h;obtain⟨a,k,rfl,l⟩:=bz c;have o:=b.cellAt 1 (v:=.slice a L.length k) ω rfl;clear b c g i j;generalize L.length=n at *
 go_enter func142,ntmps142
 go_wp2;go_ret;exact⟨rfl,rfl⟩
def NK{w:World}{v:Value}{n:Nat}{l:List Int}(h:w.ownsRow 0 3 1 v n (aZ l))(i:n<=1000000):
  Calls prog 152 #[v] w λe w'=>∃v',e=.returned v'/\w'.ownsRow w.heap.size 3 1 v' n (aZ l)/\ae [] w w':=by
 have d:l.length=n:=by have:=h.1;rw[iq] at this;omega
 rcases h.2 with⟨rfl,rfl⟩|⟨g,cap,cur,rfl,hb,hg,hn1,hc,hs,ht⟩
 .have e:l=[]:=ϙ d;subst e;refine(Tryz.slices_Clone_int_nil 0 0 w).mono ?_;rintro e w' ⟨rfl,rfl⟩;exact⟨_,rfl,⟨rfl,Α ⟨rfl,rfl⟩⟩,ae.refl _ _⟩
 .have b:∀j,j<l.length->w.cell? ⟨g,0+j,none⟩=some (.int .i64 (l.getD j 0)):=λj f=>by
   rw[ϓ,h.cellAt j ω];exact mM f
  refine(Tryz.slices_Clone_int g 0 n cap l w ω ω b).mono ?_;rintro e w' ⟨v',rfl,c, -,a⟩;rw[List.take_of_length_le ω] at c;exact⟨_,rfl,c,Gb a⟩
def RZ{w:World}{rp d:Nat}{G L:List Nat}(h:kg w rp G d L)(r:L.length<=65536):Calls prog 143 #[rp] w λe w'=>∃v,e=.returned v/\w'.ownsRow w.heap.size 3 1 v L.length (aZ (cz L))/\ae [] w w':=by
 obtain⟨mb,f,v,c,g,i,j,p,k,rfl⟩:=h;have q:=c.cellAt 1 (v:=v) ω rfl;have l:=NK g ω;clear c g i j k;generalize L.length=n at *
 go_enter func143,ntmps143
 go_wp2_with ((((with_reducible refine l.mono ?_));rintro e m ⟨o,rfl,a,b⟩))
 go_ret;exact⟨_,rfl,a,b⟩
def Wu{w:World}{B:HB}{rp n:Nat}{a:Option Addr}{b:Nat}(c:aQ w rp 302 2 (Ow B (.slice a n b))):Calls prog 270 #[rp] w λe w'=>e=.returned (n:Int)/\w'=w:=by
 have d:=c.cellAt 1 (v:=.slice a n b) ω rfl;clear c
 go_enter func270,ntmps270
 go_wp2;go_ret;exact⟨rfl,rfl⟩
structure Yn(B:HB)(F:List Nat)(A:NS)(pt:Nat)(vt:Value)(Lt Lf T:List Nat)(w7 X:World)(i:Nat)(v':Value)(L' T':List Nat):Prop where
 pil:FK X B F A pt v' L' T'
 perm:L'.Perm (Lt++Lf.take i)
 hp:Hp (om A) 2 L'
 tl:T'.length=T.length
 xU:∀y,y∉Lt++Lf.take i->T'.getD y 0=T.getD y 0
 upd:ae (pt::B.ga::B.c::vt.ownBlock.toList) w7 X
 new:∀g,v'.ownBlock=some g->vt.ownBlock=some g\/w7.heap.size<=g
section
variable{B:HB}{F:List Nat}{A:NS}{pt i:Nat}{vt v':Value}{Lt Lf T L' T':List Nat}{w7 X:World}
def Yn.ag{Y:World}(h:Yn B F A pt vt Lt Lf T w7 X i v' L' T')(a:ae [] X Y):Yn B F A pt vt Lt Lf T w7 Y i v' L' T':=
 ⟨h.pil.ag a,h.perm,h.hp,h.tl,h.xU,h.upd.joined a σ,h.new⟩
def Yn.add(h:Yn B F A pt vt Lt Lf T w7 X i v' L' T')(N:i<Lf.length)(k:(Lt++Lf).Nodup)(O:Lt.length+Lf.length<=T.length)(l:∀y,y∈Lt++Lf->bY A (y:Int)=true/\y<T.length):
  Calls prog 269 #[.iface 298 (.pointer (some (pt:Nat))),.iface 3 (.int .i64 ((Lf.getD i 0:Nat):Int))] X λe w'=>e=.returned (.tuple #[])/\∃M n o,Yn B F A pt vt Lt Lf T w7 w' (i+1) M n o:=by
 have K:Lf[i]?=some (Lf.getD i 0):=by rw[φ,ε N];rfl
 generalize Lf.getD i 0=x at *;have u:Lf.take (i+1)=Lf.take i++[x]:=by rw[ώ,K];rfl
 have a:(Lt++Lf.take (i+1)).Sublist (Lt++Lf):=(List.Sublist.refl _).append (List.take_sublist _ _);have p:(Lt++Lf.take (i+1)).Nodup:=a.nodup k;have b:(x::L').Perm (Lt++Lf.take (i+1)):=by
  rw[u,←ϋ];exact((h.perm.cons x).trans (Φ (l₁:=[x]) (l₂:=Lt++Lf.take i)))
 have q:=Ζ.1 (b.nodup_iff.2 p);have d:∀y,y∈x::L'->y∈Lt++Lf:=λy m=>a.subset (b.mem_iff.1 m);have c:=b.length_eq;have r:=a.length_le;rw[υ,υ] at r;rw[υ] at c;have f:=h.tl;have j:=l x (d x σ);refine(Eh h.pil x q.1 j.1 (by rw[f];exact j.2) (by simp only[Ω] at c;omega) h.hp).mono ?_;rintro e w' ⟨rfl,w,cap,n,o,C,D,E,G,H,I,J⟩;refine⟨rfl,_,n,o,C.any,D.trans b,E,H.trans f,λy m=>?_,h.upd.joined I (λz v=>?_),λg L=>?_⟩
 .rw[G y (λt=>m (b.mem_iff.1 t))];refine h.xU y (λt=>m ?_);rw[u,←ϋ];exact τ.2 (Α t)
 .simp only[ρ] at v ⊢;rcases v with e|e|e|e
  .exact Α (Α e)
  .exact Α (Β (Α e))
  .exact Α (Β (Β (Α e)))
  .rcases h.new z (Option.mem_toList.1 e) with e|e
   .exact Α (Β (Β (Β (Option.mem_toList.2 e))))
   .exact Β e
 .have s:some w=some g:=L;cases s;rcases J with e|e
  .exact h.new _ e
  .have:=h.upd.size;exact Β ω
end
section
variable{w w':World}{B:HB}{F Z:List Nat}{gr cr st:Nat}{A:NS}{ptr:Nat->Option Nat}{G L:Nat->List Nat}{T:List Nat}
def Lv(h:ShAt w B F Z gr A st)(a b:Nat)(hj:fQ A a b=true):
  Calls prog 265 #[B.n0,(a:Int),(b:Int)] w λe w'=>e=.returned true/\Goes (B.blk F Z gr) w w' (λF'=>∃Z' r,F'=B.blk F Z' gr/\ShAt w' B F Z' gr (az A a b) r):=by
 obtain⟨cr,ptr,G,L,T,d,hI⟩:=h;obtain⟨j1,j2,j3⟩:=(dI _ _ _).1 hj;have a1:=(aF _ _).1 j1;have a2:=(aF _ _).1 j2;have hne:a≠b:=λe=>j3 (by rw[e]);have hok:=d.cells.ok;have hcs:=hok.c1;have hd:=hI.di;obtain⟨pa,JA,va,hRa,hOa, -, -⟩:=d.iM.row a j1;obtain⟨pb,H,vb,hRb,hOb, -, -⟩:=d.iM.row b j2;have jw:(az A a b).hs.length=A.hs.length:=by unfold az;rw[Δ hj];simp
 have cga:=d.iM.cell (g:=a) ω JA;have cgb:=d.iM.cell (g:=b) ω H;obtain⟨t,f,ht,hlt⟩:∃t f,Br a b t f/\((t=a/\f=b/\¬(L a).length<(L b).length)\/(t=b/\f=a/\(L a).length<(L b).length)):=by
  by_cases e:(L a).length<(L b).length
  .exact⟨b,a,Β ⟨rfl,rfl⟩,Β ⟨rfl,rfl,e⟩⟩
  .exact⟨a,b,Α ⟨rfl,rfl⟩,Α ⟨rfl,rfl,e⟩⟩
 have o:aW A t=true:=by rcases ht with⟨e, -⟩|⟨e, -⟩<;>rw[e]<;>assumption
 have P:aW A f=true:=by rcases ht with⟨-,e⟩|⟨-,e⟩<;>rw[e]<;>assumption
 have htf:t≠f:=by rcases ht with⟨e,e'⟩|⟨e,e'⟩<;>omega
 obtain⟨s1,s2,s3,s4,s5⟩:=hd.sum ω hj ht;obtain⟨pt,vt,hpt,U,O⟩:=d.pile o (λy hy=>⟨(hd.len o hy).2.1,by rw[d.tl];exact(hd.len o hy).1⟩) (hd.nd t o) (hI.xU t o);obtain⟨pf,hpf,vf,hRf,hOf,hGf, -⟩:=d.iM.row f P;have hwh:(pa=pt/\pb=pf/\¬(L a).length<(L b).length)\/(pa=pf/\pb=pt/\(L a).length<(L b).length):=by
  rcases hlt with⟨rfl,rfl,e⟩|⟨rfl,rfl,e⟩
  .rw[hpt] at JA;rw[hpf] at H;cases JA;cases H;exact Α ⟨rfl,rfl,e⟩
  .rw[hpf] at JA;rw[hpt] at H;cases JA;cases H;exact Β ⟨rfl,rfl,e⟩
 have hl:=d.lt;have kj:=mO d.cells a b hj;have R:∀q:Nat,aW A q=true->∀z,z∈G q->z∈Z:=λq hq z n=>d.iM.uo q hq z n;have Q:∀z,z∈Z->z∉gr::F:=λz n s=>by
  rcases ρ.1 s with e|e
  .exact d.iM.Ij (by rw[←e];exact n)
  .exact(d.iU z n).1 e
 have yH:∀(q p:Nat) (W:World),ae (gr::F) w W->aW A q=true->ptr q=some p->Calls prog 270 #[p] W λe w'=>e=.returned ((L q).length:Int)/\w'=W:=λq p W u hq hp=>by
  obtain⟨p',hp',v,D,h2,h3,h4⟩:=d.iM.row q hq;rw[hp] at hp';cases hp';obtain⟨x,c,rfl, -⟩:=bz h2;exact Wu (D.upd u (Q _ (R q hq _ (by rw[h3];simp))))
 have klt:=λW (u:ae (gr::F) w W)=>yH a pa W u j1 JA;have klf:=λW (u:ae (gr::F) w W)=>yH b pb W u j2 H;obtain⟨af,cf,rfl,hcf⟩:=bz hOf;have hpfZ:pf∈Z:=R f P _ (by rw[hGf];simp);have Y:∀W,ae (gr::F) w W->W.cell? ⟨pf,1,none⟩=some (.slice af (L f).length cf):=λW u=>u.kept (hRf.cellAt 1 ω rfl) (Q _ hpfZ);have Ic:=d.bQ;have nS:=d.sep;have HD:=χ (ψ s1 (ψ (show(L t).length+(L f).length<=T.length by rw[d.tl];exact s2) (show ∀y,y∈L t++L f->bY (az A a b) (y:Int)=true/\y<T.length from λy hy=>⟨(s3 y hy).1,by rw[d.tl];exact(s3 y hy).2⟩)))
 have HC:Hid (∀W,ae (gr::F) w W->∀r,aD W B.c F (az A a b) r->Yn B F (az A a b) pt vt (L t) (L f) T W W 0 vt (L t) T):=λW u r hC=>by
  have D:pt∈Z:=R t o _ (by rw[U];simp);have hga:B.ga∉gr::F:=λs=>by
   rcases ρ.1 s with e|e
   .exact nS.2.2 e
   .exact Ic.2.2 e
  have hn0:B.n0∉gr::F:=λs=>by
   rcases ρ.1 s with e|e
   .exact nS.1 e
   .exact Ic.1 e
  exact⟨⟨O.hd.upd u (Q _ D),au O.own u (λk M=>Q _ (R t o _ (by rw[U];exact Λ _ (Option.mem_toList.2 M)))),O.AJ.upd u hga,u.kept O.Tp hn0,u.kept O.Tj hn0,⟨r,hC⟩,O.s1,O.sg,O.s2,O.s3,λy hy=>HD.out.2.2 y (τ.2 (Α hy)),O.nd,O.xU,O.tl⟩,σ,s4,rfl,λy _=>rfl,ae.refl _ _,λg hg=>Α hg⟩
 have C:∀(q z:Nat),aW A q=true->q≠t->z∈G q->z∉pt::B.ga::B.c::vt.ownBlock.toList:=λq z hq hqt n s=>by
  have hzZ:=R q hq z n;have h3:=d.iU z hzZ;have J:z∉pt::vt.ownBlock.toList:=λh=>d.iM.P6 q t hq o hqt z n (by rw[U];exact h);simp only[ρ] at s J;rcases s with e|e|e|e
  .exact J (Α e)
  .exact h3.2.2 e
  .exact h3.1 (by rw[e];exact d.cells.mem)
  .exact J (Β e)
 have hfro:∀W X,ae (gr::F) w W->ae (pt::B.ga::B.c::vt.ownBlock.toList) W X->X.ownsRow 0 3 1 (.slice af (L f).length cf) (L f).length (aZ (cz (L f))):=λW X u hX=>
  au (au hOf u (λk M=>Q _ (R f P _ (by rw[hGf];exact Λ _ (Option.mem_toList.2 M))))) hX (λk M=>C f k P (λe=>htf e.symm) (by rw[hGf];exact Λ _ (Option.mem_toList.2 M)))
 have hgrn:gr∉pt::B.ga::B.c::vt.ownBlock.toList:=λs=>by
  have J:gr∉pt::vt.ownBlock.toList:=λh=>d.iM.Ij (R t o _ (by rw[U];exact h));simp only[ρ] at s J;rcases s with e|e|e|e
  .exact J (Α e)
  .exact nS.2.2 e.symm
  .exact Ic.2.1 (by rw[e];exact d.cells.mem)
  .exact J (Β e)
 have FIN:Hid (∀W0 W v' L' T',ae (gr::F) w W0->Yn B F (az A a b) pt vt (L t) (L f) T W0 W (L f).length v' L' T'->
   W0.ownsRow 0 298 1 (.slice (some (gr:Nat)) A.hs.length cr) A.hs.length (mG (fH (fH ptr a (some pt)) b none) A.hs.length)->
   Goes (B.blk F Z gr) w W (λF'=>∃Z' r,F'=B.blk F Z' gr/\ShAt W B F Z' gr (az A a b) r)):=λW0 W v' L' T' h0 D h7=>by
  have hperm:L'.Perm (L t++L f):=by have:=D.perm;rwa[List.take_length] at this
  obtain⟨r,hC⟩:=D.pil.Io;have hs0:=h0.size
  have hU:ae (gr::(F++(pt::B.ga::B.c::vt.ownBlock.toList))) w W:=(h0.mono (λz n=>by
   rcases ρ.1 n with e|e
   .rw[e];simp
   .simp [e])).trans (D.upd.mono (λz n=>Λ _ (τ.2 (Β n))))
  have hkb:∀k:Nat,lQ (az A a b) k=(lQ A k && !(k == b)):=λk=>by
   have e:((k:Int) == (b:Int))=(k == b):=by
    rw[Bool.eq_iff_iff];simp only[beq_iff_eq];omega
   unfold lQ;rw[rY hj,e]
  have hnew:∀z,z∈pt::v'.ownBlock.toList->z∈G t\/w.heap.size<=z:=λz n=>by
   rcases ρ.1 n with e|e
   .exact Α (by rw[U,e];simp)
   .rcases D.new z (Option.mem_toList.1 e) with e|e
    .exact Α (by rw[U];exact Λ _ (Option.mem_toList.2 e))
    .exact Β ω
  have hG:∀z,z∈pt::v'.ownBlock.toList->z∉F/\z≠B.n0/\z≠B.ga:=λz n=>by
   rcases hnew z n with e|e
   .exact d.iU z (R t o z e)
   .exact⟨λs=>by have:=d.cells.lt z s;omega,λe3=>by have:=hl B.n0 (by simp[HB.blk]);omega,λe3=>by have:=hl B.ga (by simp[HB.blk]);omega⟩
  have hS:∀z,z∈gr::(F++(pt::B.ga::B.c::vt.ownBlock.toList))->z∈G t\/z∉Z:=λz n=>by
   simp only[ρ,τ] at n;rcases n with e|e|e|e|e|e
   .exact Β (by rw[e];exact d.iM.Ij)
   .exact Β (λs=>(d.iU z s).1 e)
   .exact Α (by rw[U,e];simp)
   .exact Β (λs=>(d.iU z s).2.2 e)
   .exact Β (λs=>(d.iU z s).1 (by rw[e];exact d.cells.mem))
   .exact Α (by rw[U];exact Λ _ e)
  have hn0S:B.n0∉gr::(F++(pt::B.ga::B.c::vt.ownBlock.toList)):=λs=>by
   have hpz:∀z,z∈pt::vt.ownBlock.toList->z≠B.n0:=λz n=>(d.iU z (R t o z (by rw[U];exact n))).2.1;simp only[ρ,τ] at s;rcases s with e|e|e|e|e|e
   .exact nS.1 e
   .exact Ic.1 e
   .exact hpz pt σ e.symm
   .exact nS.2.1 e.symm
   .exact Ic.1 (by rw[e];exact d.cells.mem)
   .exact hpz _ (Λ _ e) rfl
  have hJ:=hd.join ω hj ht hperm D.hp;refine⟨B.blk F (Z++(pt::v'.ownBlock.toList)) gr,⟨Z++(pt::v'.ownBlock.toList),r,rfl,cr,fH (fH ptr a (some pt)) b none,fH G a (pt::v'.ownBlock.toList),fH L a L',T',⟨?_,hC,?_,D.pil.AJ,by rw[D.tl,d.tl,eU],Ic,nS,λz n=>?_⟩,⟨hJ,λk M j x hx=>?_⟩⟩,hU.mono (λz n=>?_),λz n=>?_⟩
  .rw[jw,D.tl];exact d.head.upd hU hn0S
  .rw[jw];exact d.iM.CY (K:=acI B) j1 j2 ht hpt (au h7 D.upd (λk M=>by cases M;exact hgrn)) hne hU hS ⟨v',D.pil.hd,D.pil.own,rfl,λk M=>(D.pil.sg k M).1⟩ hnew hkb
  .rcases τ.1 n with e|e
   .exact d.iU z e
   .exact hG z e
  .by_cases e:k=a
   .subst e;rw[bM] at hx;exact D.pil.xU j x hx
   .rw[bg _ _ e] at hx;have hk':aW A k=true/\k≠b:=by
     rw[rY hj] at M;simp at M;exact⟨M.1,ω⟩
    have hxm:=Η hx;rw[D.xU x (λs=>?_)]
    .exact hI.xU k hk'.1 j x hx
    .rw[List.take_length] at s;have hkt:k≠t/\k≠f:=by rcases ht with⟨e1,e2⟩|⟨e1,e2⟩<;>exact⟨ω,ω⟩
     rcases τ.1 s with h|h
     .exact hd.apart hkt.1 hk'.1 o hxm h
     .exact hd.apart hkt.2 hk'.1 P hxm h
  .simp only[ρ,τ] at n;have hpz:∀z,z∈pt::vt.ownBlock.toList->z∈Z:=λz n=>R t o z (by rw[U];exact n);rcases n with e|e|e|e|e|e
   .simp[HB.blk,e]
   .exact B.Ap e
   .exact B.CX (hpz z (by simp[e]))
   .simp[HB.blk,e]
   .exact B.Ap (by rw[e];exact d.cells.mem)
   .exact B.CX (hpz z (Λ _ e))
  .simp only[HB.blk,ρ,τ] at n ⊢;rcases n with h|h|h|h|h|h
   .exact Α (Α h)
   .exact Α (Β (Α h))
   .exact Α (Β (Β (Α h)))
   .exact Α (Β (Β (Β (Α h))))
   .exact Α (Β (Β (Β (Β h))))
   .rcases hnew z (by simpa using h) with h|h
    .exact Α (Β (Β (Β (Β (R t o z h)))))
    .exact Β h
 have HO:=χ d.iM.rows;have c0:=d.h0;have c2:=d.h1;have xm:gr∉F:=Ic.2.1;have Ws:B.n0∉F:=Ic.1;have HP:=χ (ψ hne (ψ hcs (ψ s2 (ψ C hfro))));have b1:(0:Int)<=(a:Int):=ω;have b2:(a:Int)<(A.hs.length:Int):=ω;have b3:(0:Int)<=(b:Int):=ω;have b4:(b:Int)<(A.hs.length:Int):=ω;have hlf65:(L f).length<=65536:=ω;clear d hI hd hj j1 j2 j3 hok hcs JA H jw hlt ht hpt hpf o P htf s1 s2 s3 s4 s5 hl Ic nS hne a1 a2 hRa hRb hOa hOb U O hRf hOf hGf R Q yH hpfZ C hfro hgrn va vb;generalize az A a b=A' at *;generalize (L a).length=la at *;generalize (L b).length=lb at *
 generalize hLt:L t=Lt at *;generalize hLf:L f=Lf at *;generalize A.hs.length=m at *;clear hLt hLf
 go_enter func265,ntmps265
 go_upto_region 3 with((((with_reducible refine kj.mono ?_));rintro e w1 ⟨rfl,gK,N⟩))
 have d2:=N.kept c2 Ws;have da:=N.kept cga xm;have db:=N.kept cgb xm;have I:ae (gr::F) w w1:=N.mono (λz n=>Λ _ n);have sF:=χ (au HO.out N (λk M=>by cases M;exact xm));have fz:∀j,w1.frozen? ⟨gr,j,none⟩=false:=λj=>sF.out.frozenAt j;have fa:=fz a;have fb:=fz b;have TE:=λW (u:ae [] w1 W)=>klt W (I.joined u σ);have WH:=λW (u:ae [] w1 W)=>klf W (I.joined u σ);have HJ:=χ (ψ gK (ψ I Y));clear c0 c2 cga cgb kj N gK I fz klt klf Y
 go_cut [7,8] (λs7 s8 W=>s7=.pointer (some (pa:Nat))/\s8=.pointer (some (pb:Nat))/\ae [] w1 W)
 case first=>
  go_quiet (fail)
  go_wp2
  go_meet
  exact⟨rfl,rfl,β⟩
 case rest=>
 obtain⟨rfl,rfl,E⟩:=hcut;rename World=>W1;have e2:=E.was d2;have ea:=E.was da;have eb:=E.was db;have ga:=E.ay da σ fa;have gb:=E.ay db σ fb;have VK:=λW (u:ae [] W1 W)=>TE W (E.trans u);have Uy:=λW (u:ae [] W1 W)=>WH W (E.trans u);have HU:=χ E;have acK:¬a=b:=HP.out.1;have hnba:¬b=a:=λe=>acK e.symm;clear d2 da db fa fb TE WH E
 go_upto_if 37 with (first
  |(((with_reducible refine(VK _ β).mono ?_));rintro e w9 ⟨rfl,zz⟩;rw[zz];clear zz w9)
  | (((with_reducible refine (Uy _ β).mono ?_));rintro e w9 ⟨rfl,zz⟩;rw [zz];clear zz w9))
 go_cut [7,8] (λs7 s8 W=>s7=.pointer (some (pt:Nat))/\s8=.pointer (some (pf:Nat))/\ae [] W1 W)
 case first=>
  rcases hwh with⟨rfl,rfl,hlt⟩|⟨rfl,rfl,hlt⟩
  .have hdec:decide ((la:Int)<(lb:Int))=false:=ζ;go_wp2
   go_meet
   exact⟨rfl,rfl,β⟩
  .have hdec:decide ((la:Int)<(lb:Int))=true:=ζ;go_wp2
   go_meet
   exact⟨rfl,rfl,β⟩
 case rest=>
 obtain⟨rfl,rfl,E⟩:=hcut;rename World=>W2;have e3:=E.was e2;have ea3:=E.was ea;have eb3:=E.was eb;have ga3:=E.ay ea σ ga;have gb3:=E.ay eb σ gb;have HU2:=χ (HU.out.trans E);clear e2 ea eb ga gb VK Uy E hwh
 go_upto_region 6 with(fail)
 go_cut [] (λW=>W.ownsRow 0 298 1 (.slice (some (gr:Nat)) m cr) m (mG (fH (fH ptr a (some pt)) b none) m)/\ae [gr] w1 W)
 case first=>
  go_region
  all_goals
   go_wp2
   go_meet
   have hu:=HU2.out;have ho2:=au sF.out hu σ;refine⟨au (?_:World.ownsRow ((W2.setCell ⟨gr,a,none⟩ (zG (some pt))).setCell ⟨gr,b,none⟩ (zG none)) _ _ _ _ _ _) (S:=[]) β σ,?_⟩
   .rw[←vX,←vX];exact kQ (kQ ho2 a _) b _
   .exact ae.trans (hu.mono σ) β
 case rest=>
 obtain⟨hO3,hu3⟩:=hcut;rename World=>W3;obtain⟨gK,I,Y⟩:=HJ.out;have hv3:ae (gr::F) w W3:=I.trans (hu3.mono (λz n=>by simp at n;rw[n];simp));have yI:=gK.upd hu3 (λz n=>by simp at n;rw[n];exact xm);have c3:=Y W3 hv3;have HM:=χ (ψ (HC.out W3 hv3 _ yI) (ψ hv3 hO3));clear hO3 hu3 gK I Y hv3 yI xm Ws e3 ea3 eb3 ga3 gb3;go_wp2
 go_loopw [10,58] (λv10 v58 wr=>∃(i:Nat) (v':Value) (L' T':List Nat),i<=Lf.length/\v58=.int .i64 (i:Int)/\Yn B F A' pt vt Lt Lf T W3 wr i v' L' T') (λ_ v58 _=>Lf.length-(intOf v58).toNat)
 case atStart=>exact⟨0,vt,Lt,T,Nat.zero_le _,rfl,HM.out.1.ag β⟩
 case round=>
  obtain⟨i,v',L',T',hi,rfl,hL⟩:=hrel;rename World=>wr
  by_cases hin:i<Lf.length
  .have Gr:(i:Int)<(Lf.length:Int):=ω;have hwj:IntKind.i64.wrap ((i:Int)+1)=(i:Int)+1:=Μ _ ω;obtain⟨g7,c7',ev, -, -, -, -,hcs, -⟩:=fU (HP.out.2.2.2.2 W3 wr HM.out.2.1 hL.upd) ω;cases ev
   have hcl:=hcs i (.int .i64 ((Lf.getD i 0:Nat):Int)) (by
    have:=mM (l:=cz Lf) (j:=i) (by rw[dN];exact hin)
    rwa [pJ] at this)
   have Js:=λX (hX:ae [] wr X)=>(hL.ag hX).add hin HD.out.1 HD.out.2.1 HD.out.2.2;clear hL hcs;generalize Lf.getD i 0=x at *
   go_wp2_with ((((with_reducible refine(Js _ β).mono ?_));rintro e w8 ⟨rfl,v2,L2,T2,hL2⟩))
   go_roundw
   case rel=>exact⟨i+1,v2,L2,T2,ω,by go_num,hL2⟩
   case measure=>simp[intOf];omega
  .obtain rfl:i=Lf.length:=ω;have Gr:¬(Lf.length:Int)<(Lf.length:Int):=ω;have hF:Hid (∀W,ae [] wr W->Goes (B.blk F Z gr) w W (λF'=>∃Z' r,F'=B.blk F Z' gr/\ShAt W B F Z' gr A' r)):=λW u=>FIN.out W3 W v' L' T' HM.out.2.1 (hL.ag u) HM.out.2.2;clear hL;go_wp2;go_ret;obtain⟨F',⟨Z',r,e,hA⟩,q⟩:=hF.out _ (ae.refl _ _);exact⟨rfl,F',⟨Z',e,r,hA⟩,q⟩
end
structure Z9(B:DB)(F:List Nat)(A:NS)(pt:Nat)(Gt Lt Lf:List Nat)(w7 X:World)(i:Nat)(G' L':List Nat):Prop where
 row:kg X pt G' B.d L'
 perm:L'.Perm (Lt++Lf.take i)
 hp:Hp (om A) B.d L'
 Io:∃st,aD X B.c F A st
 upd:ae (Gt++[B.c]) w7 X
 new:∀z,z∈G'->z∈Gt\/w7.heap.size<=z
structure MeC(B:DB)(F:List Nat)(A:NS)(Gt Lt Lf:List Nat)(w7:World):Prop where
 h0:w7.cell? B.n0=some (B.c:V)
 nF:B.n0∉F
 lF:∀z,z∈B.n0::F->z<w7.heap.size
 cl:∀z,z∈Gt->z∉B.n0::F
 cF:B.c∈F
 dd:2<=B.d/\B.d<=16
 nd:(Lt++Lf).Nodup
 len:Lt.length+Lf.length<=65536
 dom:∀y,y∈Lt++Lf->bY A (y:Int)=true/\y<=65536
section
variable{B:DB}{F:List Nat}{A:NS}{pt i:Nat}{Gt Lt Lf G' L':List Nat}{w7 X:World}
def Z9.ag{Y:World}(h:Z9 B F A pt Gt Lt Lf w7 X i G' L')(a:ae [] X Y):Z9 B F A pt Gt Lt Lf w7 Y i G' L':=by
 obtain⟨st,b⟩:=h.Io;exact⟨h.row.upd a σ,h.perm,h.hp,⟨st,b.ag a⟩,h.upd.joined a σ,h.new⟩
def Z9.add(h:Z9 B F A pt Gt Lt Lf w7 X i G' L')(c:MeC B F A Gt Lt Lf w7)(H:i<Lf.length):
  Calls prog 139 #[(pt:Nat),.iface 122 (.pointer (some B.n0)),((Lf.getD i 0:Nat):Int)] X λe w'=>e=.returned true/\∃m n,Z9 B F A pt Gt Lt Lf w7 w' (i+1) m n:=by
 obtain⟨st,w⟩:=h.Io;have C:Lf[i]?=some (Lf.getD i 0):=by rw[φ,ε H];rfl
 generalize Lf.getD i 0=x at *;have D:Lf.take (i+1)=Lf.take i++[x]:=by rw[ώ,C];rfl
 have a:(Lt++Lf.take (i+1)).Sublist (Lt++Lf):=(List.Sublist.refl _).append (List.take_sublist _ _);have o:(Lt++Lf.take (i+1)).Nodup:=a.nodup c.nd;have b:(x::L').Perm (Lt++Lf.take (i+1)):=by
  rw[D,←ϋ];exact((h.perm.cons x).trans (Φ (l₁:=[x]) (l₂:=Lt++Lf.take i)))
 have g:=Ζ.1 (b.nodup_iff.2 o);have d:∀y,y∈x::L'->y∈Lt++Lf:=λy j=>a.subset (b.mem_iff.1 j);have f:=b.length_eq;have p:=a.length_le;rw[υ,υ] at p;rw[υ] at f;have E:=c.len;have G:(UA B F A c.cF).at_ X:=⟨h.upd.kept c.h0 (λl=>?_),c.nF,st,w⟩
 .refine(JD (UA B F A c.cF) G h.row c.dd (by simp only[Ω] at f;omega) h.hp x g.1 g.2 (λy j=>(c.dom y (d y j)).1) (λy j=>(c.dom y (d y j)).2) (λz k l=>?_)).mono ?_
  .rcases h.new z k with e|e
   .exact c.cl z e l
   .have:=c.lF z l;omega
  rintro e w' ⟨rfl,m,n,q,r,s,⟨-, -,t⟩,u,v⟩;refine⟨rfl,m,n,q,r.trans b,s,t,h.upd.joined u (λz k=>?_),λz k=>?_⟩
  .rcases τ.1 k with e|e
   .rcases h.new z e with e|e
    .exact Α (τ.2 (Α e))
    .exact Β e
   .exact Α (τ.2 (Β e))
  .rcases v z k with e|e
   .exact h.new z e
   .have:=h.upd.size;exact Β ω
 .rcases τ.1 l with e|e
  .exact c.cl _ e σ
  .simp at e;exact c.nF (by rw[e];exact c.cF)
end
section
variable{w w':World}{B:DB}{F Z:List Nat}{gr cr st:Nat}{A:NS}{ptr:Nat->Option Nat}{G L:Nat->List Nat}
def QL(h:mU w B F Z gr A st)(a b:Nat)(hj:fQ A a b=true):
  Calls prog 128 #[B.n0,(a:Int),(b:Int)] w λe w'=>e=.returned true/\Goes (B.blk F Z gr) w w' (λF'=>∃J n,F'=B.blk F J gr/\mU w' B F J gr (az A a b) n):=by
 obtain⟨cr,ptr,G,L,c,hI⟩:=h;obtain⟨j1,j2,j3⟩:=(dI _ _ _).1 hj;have a1:=(aF _ _).1 j1;have a2:=(aF _ _).1 j2;have hne:a≠b:=λe=>j3 (by rw[e]);have hok:=c.cells.ok;have I:=hok.c1;obtain⟨pa,M, -⟩:=c.iM.row a j1;obtain⟨Y,r, -⟩:=c.iM.row b j2;have jw:(az A a b).hs.length=A.hs.length:=by unfold az;rw[Δ hj];simp
 have cga:=c.iM.cell (g:=a) ω M;have cgb:=c.iM.cell (g:=b) ω r;obtain⟨t,f,R,N⟩:∃t f,Br a b t f/\((t=a/\f=b/\¬(L a).length<(L b).length)\/(t=b/\f=a/\(L a).length<(L b).length)):=by
  by_cases e:(L a).length<(L b).length
  .exact⟨b,a,Β ⟨rfl,rfl⟩,Β ⟨rfl,rfl,e⟩⟩
  .exact⟨a,b,Α ⟨rfl,rfl⟩,Α ⟨rfl,rfl,e⟩⟩
 obtain⟨pt,H⟩:∃pt,ptr t=some pt:=by rcases R with⟨e, -⟩|⟨e, -⟩;exact⟨pa,by rw[e];exact M⟩;exact⟨Y,by rw[e];exact r⟩
 obtain⟨pf,O⟩:∃pf,ptr f=some pf:=by rcases R with⟨-,e⟩|⟨-,e⟩;exact⟨Y,by rw[e];exact r⟩;exact⟨pa,by rw[e];exact M⟩
 have u:aW A t=true:=by rcases R with⟨e, -⟩|⟨e, -⟩<;>rw[e]<;>assumption
 have hf1:aW A f=true:=by rcases R with⟨-,e⟩|⟨-,e⟩<;>rw[e]<;>assumption
 have hwh:(pa=pt/\Y=pf/\¬(L a).length<(L b).length)\/(pa=pf/\Y=pt/\(L a).length<(L b).length):=by
  rcases N with⟨rfl,rfl,e⟩|⟨rfl,rfl,e⟩
  .rw[H] at M;rw[O] at r;cases M;cases r;exact Α ⟨rfl,rfl,e⟩
  .rw[O] at M;rw[H] at r;cases M;cases r;exact Β ⟨rfl,rfl,e⟩
 obtain⟨s1,s2,s3,s4,s5⟩:=hI.sum c.dd.1 hj R;have hl:=c.lt;have kj:=mO c.cells a b hj;have We:∀(q p:Nat) (W:World),ae (gr::F) w W->aW A q=true->ptr q=some p->kg W p (G q) B.d (L q):=λq p W o hq hp=>by
  obtain⟨p',hp',hR⟩:=c.iM.row q hq;rw[hp] at hp';cases hp';have hR':kg w p (G q) B.d (L q):=hR;refine hR'.upd o (λz d C=>?_);rcases ρ.1 d with e|e
  .exact c.iM.Ij (by rw[←e];exact c.iM.uo q hq z C)
  .exact(c.iU z (c.iM.uo q hq z C)).1 e
 have klt:∀W,ae (gr::F) w W->Calls prog 142 #[(pa:Nat)] W λe w'=>e=.returned ((L a).length:Int)/\w'=W:=λW o=>E9 (We a pa W o j1 M);have klf:∀W,ae (gr::F) w W->Calls prog 142 #[(Y:Nat)] W λe w'=>e=.returned ((L b).length:Int)/\w'=W:=λW o=>E9 (We b Y W o j2 r);have V4:∀W,ae (gr::F) w W->Calls prog 143 #[(pf:Nat)] W λe w'=>∃v,e=.returned v/\w'.ownsRow W.heap.size 3 1 v (L f).length (aZ (cz (L f)))/\ae [] W w':=λW o=>RZ (We f pf W o hf1 O) ω;have P:=c.bQ
 have HC:Hid (∀W,ae (gr::F) w W->W.cell? B.n0=some (B.c:V)/\MeC B F (az A a b) (G t) (L t) (L f) W/\∀n,aD W B.c F (az A a b) n->Z9 B F (az A a b) pt (G t) (L t) (L f) W W 0 (G t) (L t)):=λW o=>by
  have h0:W.cell? B.n0=some (B.c:V):=o.kept c.h0 (λC=>by
   rcases ρ.1 C with e|e
   .exact P.2.2 e
   .exact P.1 e)
  refine⟨h0,⟨h0,P.1,λz d=>?_,λz d C=>c.clear u z d C,c.cells.mem,c.dd,s1,ω,λy hy=>⟨(s3 y hy).1,by have:=(s3 y hy).2;omega⟩⟩,λn hC=>⟨We t pt W o u H,σ,s4,⟨n,hC⟩,ae.refl _ _,λz d=>Α d⟩⟩;have:=o.size
  have:=hl z (by
   simp only[DB.blk,ρ,τ] at d ⊢;rcases d with e|e
   .exact Α e
   .exact Β (Β (Α e)))
  omega
 have FIN:Hid (∀W G' L',(∀z,z∈G'->z∈G t\/w.heap.size<=z)->kg W pt G' B.d L'->L'.Perm (L t++L f)->Hp (om (az A a b)) B.d L'->(∃n,aD W B.c F (az A a b) n)->ae (gr::(F++G t)) w W->
   W.ownsRow 0 174 1 (.slice (some (gr:Nat)) A.hs.length cr) A.hs.length (mG (fH (fH ptr a (some pt)) b none) A.hs.length)->
   Goes (B.blk F Z gr) w W (λF'=>∃J n,F'=B.blk F J gr/\mU W B F J gr (az A a b) n)):=λW G' L' h1 h2 h3 h4 ⟨n,h5⟩ h6 h7=>by
  have hkb:∀k:Nat,lQ (az A a b) k=(lQ A k && !(k == b)):=λk=>by
   have e:((k:Int) == (b:Int))=(k == b):=by
    rw[Bool.eq_iff_iff];simp only[beq_iff_eq];omega
   unfold lQ;rw[rY hj,e]
  have hG:∀z,z∈G'->z∉F/\z≠B.n0:=λz d=>by
   rcases h1 z d with e|e
   .exact c.iU z (c.iM.uo t u z e)
   .exact⟨λC=>by have:=c.cells.lt z C;omega,λe3=>by have:=hl B.n0 (by simp[DB.blk]);omega⟩
  have hS:∀z,z∈gr::(F++G t)->z∈G t\/z∉Z:=λz d=>by
   rcases ρ.1 d with e|e
   .exact Β (by rw[e];exact c.iM.Ij)
   .rcases τ.1 e with e|e
    .exact Β (λC=>(c.iU z C).1 e)
    .exact Α e
  refine⟨B.blk F (Z++G') gr,⟨Z++G',n,rfl,cr,fH (fH ptr a (some pt)) b none,fH G a G',fH L a L',⟨?_,h5,?_,P,λz d=>?_,c.dd⟩,hI.join c.dd.1 hj R h3 h4⟩,h6.mono (λz d=>?_),λz d=>?_⟩
  .rw[jw];refine c.head.upd h6 (λC=>?_);rcases ρ.1 C with e|e
   .exact P.2.2 e
   .rcases τ.1 e with e|e
    .exact P.1 e
    .exact(c.iU _ (c.iM.uo t u _ e)).2 rfl
  .rw[jw];exact c.iM.CY (K:=abw B.d) j1 j2 R H h7 hne h6 hS h2 h1 hkb
  .rcases τ.1 d with e|e
   .exact c.iU z e
   .exact hG z e
  .simp only[DB.blk,ρ,τ] at d ⊢;rcases d with e|e|e
   .exact Β (Α e)
   .exact Β (Β (Α e))
   .exact Β (Β (Β (c.iM.uo t u z e)))
  .simp only[DB.blk,ρ,τ] at d ⊢;rcases d with h|h|h|h|h
   .exact Α (Α h)
   .exact Α (Β (Α h))
   .exact Α (Β (Β (Α h)))
   .exact Α (Β (Β (Β h)))
   .rcases h1 z h with h|h
    .exact Α (Β (Β (Β (c.iM.uo t u z h))))
    .exact Β h
 have HO:=χ c.iM.rows;have c0:=c.h0;have c2:=c.h2;have xm:gr∉F:=P.2.1;have Ws:B.n0∉F:=P.1;have hgG:gr∉G t++[B.c]:=λC=>by
  rcases τ.1 C with e|e
  .exact c.iM.Ij (c.iM.uo t u _ e)
  .simp at e;exact xm (by rw[e];exact c.cells.mem)
 have HP:=χ (ψ hne (ψ I s2));have b1:(0:Int)<=(a:Int):=ω;have b2:(a:Int)<(A.hs.length:Int):=ω;have b3:(0:Int)<=(b:Int):=ω;have b4:(b:Int)<(A.hs.length:Int):=ω;clear c hI hj j1 j2 j3 hok I M r jw N R H O u hf1 s1 s2 s3 s4 s5 hl P We hne a1 a2;generalize az A a b=A' at *;generalize (L a).length=la at *;generalize (L b).length=lb at *;generalize hLt:L t=Lt at *;generalize hLf:L f=Lf at *;generalize QF:G t=Gt at *;generalize A.hs.length=m at *;clear hLt hLf QF
 go_enter func128,ntmps128
 go_upto_region 3 with((((with_reducible refine kj.mono ?_));rintro e w1 ⟨rfl,gK,E⟩))
 have d2:=E.kept c2 Ws;have da:=E.kept cga xm;have db:=E.kept cgb xm;have D:ae (gr::F) w w1:=E.mono (λz d=>Λ _ d);have sF:=χ (au HO.out E (λk hk=>by cases hk;exact xm));have fz:∀j,w1.frozen? ⟨gr,j,none⟩=false:=λj=>sF.out.frozenAt j;have fa:=fz a;have fb:=fz b;have TE:=λW (o:ae [] w1 W)=>klt W (D.joined o σ);have WH:=λW (o:ae [] w1 W)=>klf W (D.joined o σ);have HJ:=χ (ψ gK D);clear c0 c2 cga cgb kj E gK D fz klt klf
 go_cut [7,8] (λs7 s8 W=>s7=.pointer (some (pa:Nat))/\s8=.pointer (some (Y:Nat))/\ae [] w1 W)
 case first=>
  go_quiet (fail)
  go_wp2
  go_meet
  exact⟨rfl,rfl,β⟩
 case rest=>
 obtain⟨rfl,rfl,s⟩:=hcut;rename World=>W1;have e2:=s.was d2;have ea:=s.was da;have eb:=s.was db;have ga:=s.ay da σ fa;have gb:=s.ay db σ fb;have VK:=λW (o:ae [] W1 W)=>TE W (s.trans o);have Uy:=λW (o:ae [] W1 W)=>WH W (s.trans o);have HU:=χ s;have acK:¬a=b:=HP.out.1;have hnba:¬b=a:=λe=>acK e.symm;clear d2 da db fa fb TE WH s
 go_upto_if 37 with (first
  |(((with_reducible refine(VK _ β).mono ?_));rintro e w9 ⟨rfl,zz⟩;rw[zz];clear zz w9)
  | (((with_reducible refine (Uy _ β).mono ?_));rintro e w9 ⟨rfl,zz⟩;rw [zz];clear zz w9))
 go_cut [7,8] (λs7 s8 W=>s7=.pointer (some (pt:Nat))/\s8=.pointer (some (pf:Nat))/\ae [] W1 W)
 case first=>
  rcases hwh with⟨rfl,rfl,N⟩|⟨rfl,rfl,N⟩
  .have hdec:decide ((la:Int)<(lb:Int))=false:=ζ;go_wp2
   go_meet
   exact⟨rfl,rfl,β⟩
  .have hdec:decide ((la:Int)<(lb:Int))=true:=ζ;go_wp2
   go_meet
   exact⟨rfl,rfl,β⟩
 case rest=>
 obtain⟨rfl,rfl,s⟩:=hcut;rename World=>W2;have e3:=s.was e2;have ea3:=s.was ea;have eb3:=s.was eb;have ga3:=s.ay ea σ ga;have gb3:=s.ay eb σ gb;have HU2:=χ (HU.out.trans s);clear e2 ea eb ga gb VK Uy s hwh
 go_upto_region 6 with(fail)
 go_cut [] (λW=>W.ownsRow 0 174 1 (.slice (some (gr:Nat)) m cr) m (mG (fH (fH ptr a (some pt)) b none) m)/\ae [gr] w1 W)
 case first=>
  go_region
  all_goals
   go_wp2
   go_meet
   have hu:=HU2.out;have ho2:=au sF.out hu σ;refine⟨au (?_:World.ownsRow ((W2.setCell ⟨gr,a,none⟩ (zG (some pt))).setCell ⟨gr,b,none⟩ (zG none)) _ _ _ _ _ _) (S:=[]) β σ,?_⟩
   .rw[←vX,←vX];exact kQ (kQ ho2 a _) b _
   .exact ae.trans (hu.mono σ) β
 case rest=>
 obtain⟨hO3,hu3⟩:=hcut;rename World=>W3;obtain⟨gK,D⟩:=HJ.out;have Q:ae (gr::F) w W3:=D.trans (hu3.mono (λz d=>by simp at d;rw[d];simp));have yI:=gK.upd hu3 (λz d=>by simp at d;rw[d];exact xm);have afw:=V4 W3 Q
 have HG:=χ (ψ hgG (show ∀z,z∈Gt++[B.c]->z<W3.heap.size from λz d=>by
  obtain⟨-,q1,q2⟩:=HC.out W3 Q;rcases τ.1 d with e|e
  .exact(q2 _ yI).row.lt z e
  .exact q1.lF z (by simp at e;rw [e];exact Λ _ q1.cF)))
 have HH:=χ (ψ hO3 (ψ Q yI));clear hO3 hu3 gK D Q yI V4 xm hgG Ws e3 ea3 eb3 ga3 gb3
 go_wp2_with ((((with_reducible refine afw.mono ?_));rintro e w7 ⟨v7,rfl,U,lT⟩;obtain⟨a7,c7,rfl,hc7⟩:=bz U))
 have hv7:ae (gr::F) w w7:=HH.out.2.1.joined lT σ;obtain⟨-,hMC,hMS⟩:=HC.out w7 hv7;have T:=hMS _ (HH.out.2.2.ag lT);have hln:=hMC.len;have HM:=χ (ψ hMC (ψ T (ψ U (ψ lT hv7))));clear hMC hMS T U lT hv7
 go_loopw [10,56] (λv10 v56 wr=>∃(i:Nat) (G' L':List Nat),i<=Lf.length/\v56=.int .i64 (i:Int)/\Z9 B F A' pt Gt Lt Lf w7 wr i G' L') (λ_ v56 _=>Lf.length-(intOf v56).toNat)
 case atStart=>exact⟨0,Gt,Lt,Nat.zero_le _,rfl,HM.out.2.1⟩
 case round=>
  obtain⟨i,G',L',hi,rfl,hL⟩:=hrel;rename World=>wr
  by_cases hin:i<Lf.length
  .have Gr:(i:Int)<(Lf.length:Int):=ω;have hwj:IntKind.i64.wrap ((i:Int)+1)=(i:Int)+1:=Μ _ ω;obtain⟨g7,c7',ev,hg7,hg7b, -, -,I, -⟩:=fU HM.out.2.2.1 ω;cases ev
   have hcl:=hL.upd.kept (I i (.int .i64 ((Lf.getD i 0:Nat):Int)) (by
    have:=mM (l:=cz Lf) (j:=i) (by rw[dN];exact hin)
    rwa [pJ] at this)) (λC=>by
    have:=HG.out.2 g7 C
    omega)
   have Js:=λX (hX:ae [] wr X)=>(hL.ag hX).add HM.out.1 hin;clear hL I;generalize Lf.getD i 0=x at *
   go_wp2_with ((((with_reducible refine(Js _ β).mono ?_));rintro e w8 ⟨rfl,G2,L2,hL2⟩))
   go_roundw
   case rel=>exact⟨i+1,G2,L2,ω,by go_num,hL2⟩
   case measure=>simp[intOf];omega
  .obtain rfl:i=Lf.length:=ω;have Gr:¬(Lf.length:Int)<(Lf.length:Int):=ω;have hF:Hid (∀W,ae [] wr W->Goes (B.blk F Z gr) w W (λF'=>∃J n,F'=B.blk F J gr/\mU W B F J gr A' n)):=λW o=>by
    have jT:=hL.ag o;obtain⟨q1,q2,q3,q4,q5⟩:=HM.out;have hs:=q5.size;refine FIN.out W G' L' (λz d=>?_) jT.row (by have:=jT.perm;rwa[List.take_length] at this) jT.hp jT.Io ((q5.mono (λz d=>?_)).trans (jT.upd.mono (λz d=>?_))) (au (au HH.out.1 q4 σ) jT.upd (λk hk=>by cases hk;exact HG.out.1))
    .rcases jT.new z d with e|e
     .exact Α e
     .exact Β ω
    .rcases ρ.1 d with e|e
     .rw[e];simp
     .simp[e]
    .rcases τ.1 d with e|e
     .simp[e]
     .simp at e;rw[e];simp[q1.cF]
   clear hL;go_wp2;go_ret;obtain⟨F',⟨J,n,e,hA⟩,q⟩:=hF.out _ (ae.refl _ _);exact⟨rfl,F',⟨J,e,n,hA⟩,q⟩
