/-
  Lemmas for ProofHolds: BnS, OwnS, Bn, Bn2, Del, Bn3, Bn4. Conditions: those of each lemma.
-/
import Derived.Lib.SliceRun
import Derived.IntWalk
import Derived.Test.YtklibcncmbofpaaGreatR07
import Derived.Test.YtklibcncmbofpaaGreatR14
set_option linter.all false
set_option maxHeartbeats 8000000
set_option maxRecDepth 10000
namespace Go.Proofs.YtklibcncmbofpaaGreat
def Qo(A':NS)(h x:Nat)(G:BG):BG:=yQ (bX A') A'.cs.length h [(x:Int)] G
def UM(A':NS)(h x:Nat)(G:BG):Nat:=(lu (bX A') A'.cs.length G.F (G.R h) [(x:Int)]).q
theorem Tw(n:Nat)(F:CF):lS n F []:=⟨fun x hx=>(by cases hx),List.Pairwise.nil⟩
theorem Yu(n:Nat):Dk (NS.new n) BG.none:=by
 have hc:=fun y=>NS.yM n y;have hn:(NS.new n).cs.length=n:=by simp[NS.new]
 refine⟨⟨by rw[hn];exact QV n,fun y p hy hu=>?_,fun y p hy hu=>?_,fun y hy hh=>⟨rfl,rfl⟩⟩,⟨fun h=>Tw _ _,fun h y=>⟨fun hm=>(by cases hm),fun hm=>?_⟩⟩,fun h hh=>?_⟩
 ·have:(-1:Int)=p:=hu;omega
 ·have:(-1:Int)=p:=hu;omega
 ·have h2:=hm.2.2.2;rw[hc]at h2;simp[Cl.z]at h2;omega
 ·have:¬0<dO (NS.new n) (h:Int):=fun hp=>by
   obtain⟨y,_,h2,h3⟩:=fH.1 hp;rw[hc]at h2;simp[Cl.z]at h2;omega
  show(0:Nat)=_
  omega
theorem ZB(A:NS)(y:Nat):(aR A).c y=A.c y:=by unfold aR;split<;>rfl
theorem LC(A:NS):(aR A).cs=A.cs:=by unfold aR;split<;>rfl
section
variable {A:NS}{G:BG}
theorem Vl(B:Dk A G):Dk (aR A) G:=by
 have hc:=ZB A;have hs:(aR A).cs.length=A.cs.length:=by rw[LC]
 refine⟨⟨by rw[hs];exact B.fh.f,fun y p hy hu=>by rw[hc,hc];exact B.fh.home y p (by rw[←hs];exact hy) hu,fun y p hy hu=>(fJ (hc p) (hc y)).2 (B.fh.ord y p (by rw[←hs];exact hy) hu),fun y hy hh=>B.fh.alone y (by rw[←hs];exact hy) (by rw[←hc];exact hh)⟩,
  ⟨fun h=>by rw[hs];exact B.rh.row h,fun h y=>by rw[hs,hc];exact B.rh.mem h y⟩,fun h hh=>by rw[hs,N9];exact B.w h hh⟩
theorem Y3{h x:Nat}(k s:Int)(B:Dk A G)(ok:A.Ok)(hB:oG A h x=true) :
  Dk (aK A h x k s) (Qo (aK A h x k s) h x G)/\UM (aK A h x k s) h x G+((Qo (aK A h x k s) h x G).R h).length=(G.R h).length+1/\
   lS A.cs.length G.F [(x:Int)]/\(∀z,z∈G.R h->z∉[(x:Int)])/\(∀z,z∈G.R h\/z∈[(x:Int)]->bS (aK A h x k s) z=true)/\(aK A h x k s).cs.length=A.cs.length:=by
 obtain⟨b1,b2,b3⟩:=(fB _ _ _).1 hB;have b4:=(aV _ _).1 b1;have hx:x<A.cs.length:=by have:=(gU _ _).1 b2;omega
 have Fq:1<=h:=ω;have h0:¬0<(A.c x).i:=fun hp=>by rw[(ah _ _).2 ⟨hx,hp⟩]at b3;cases b3
 have eA:aK A h x k s=jc A x ⟨h,k,s⟩:=by unfold aK;rw[if_pos hB,π]
 have hcs:(aK A h x k s).cs.length=A.cs.length:=by rw[eA];exact fI _ _ _
 have hc:∀y,(aK A h x k s).c y=if y=x then ⟨h,k,s⟩else A.c y:=fun y=>by
  rw[eA,kH]
  by_cases e:y=x
  ·rw[if_pos ⟨e,hx⟩,if_pos e]
  ·rw[if_neg (fun h=>e h.1),if_neg e]
 have al:=B.fh.alone x hx h0
 have hne:∀y p:Nat,y<A.cs.length->G.F.u y=p->y≠x/\p≠x:=fun y p hy hu=>⟨fun e=>by subst e;rw[al.1]at hu;omega,fun e=>by
  subst e;have:=(B.fh.f.above hy hu).2
  rw[al.2]at this;cases this⟩
 have hF:FH A.cs.length G.F (fun y=>((aK A h x k s).c y).i) (bZ (aK A h x k s)):=by
  refine⟨B.fh.f,fun y p hy hu=>?_,fun y p hy hu=>?_,fun y hy hh=>?_⟩
  ·obtain⟨e1,e2⟩:=hne y p hy hu;rw[hc,hc,if_neg e1,if_neg e2];exact B.fh.home y p hy hu
  ·obtain⟨e1,e2⟩:=hne y p hy hu;exact(fJ (by rw[hc,if_neg e2]) (by rw[hc,if_neg e1])).2 (B.fh.ord y p hy hu)
  ·by_cases e:y=x
   ·rw[hc,if_pos e]at hh;simp only at hh;omega
   ·rw[hc,if_neg e]at hh;exact B.fh.alone y hy hh
 have hin:∀y:Nat,y<A.cs.length->((aK A h x k s).c y).i=(h:Int)->bS (aK A h x k s) (y:Int)=true:=fun y hy e=>(ah _ _).2 ⟨ω,ω⟩;have hl:lS A.cs.length G.F [(x:Int)]:=⟨fun z hz=>by simp at hz;subst hz;exact⟨ω,ω,by simpa using al.1⟩,List.pairwise_singleton _ _⟩;have hd:∀z,z∈G.R h->z∉[(x:Int)]:=fun z hz hm=>by
  simp at hm;subst hm;have:=((B.rh.mem h x).1 hz).2.2.2;omega
 have hm:∀y:Nat,y<A.cs.length/\G.F.u y=-1/\((aK A h x k s).c y).i=(h:Int)↔(y:Int)∈G.R h\/(y:Int)∈[(x:Int)]:=fun y=>by
  rw[B.rh.mem h y];simp only[List.mem_singleton]
  by_cases e:y=x
  ·subst e;rw[hc,if_pos rfl];exact⟨fun _=>Or.inr rfl,fun _=>⟨hx,al.1,rfl⟩⟩
  ·rw[hc,if_neg e];constructor
   ·rintro⟨a1,a2,a3⟩;exact Or.inl ⟨Fq,a1,a2,a3⟩
   ·rintro(⟨_,a1,a2,a3⟩|a4)
    ·exact⟨a1,a2,a3⟩
    ·omega
 obtain⟨r1,r2,r3,r4⟩:=Dt (G:=G) (lt:=bX (aK A h x k s)) (h:=h) hF ok.c1 (oO _) (fun y p hy hp h1 h2 hne ha=>zH (hin y hy h1) (hin p hp h2) hne ha) Fq B.rh.row (fun q y hq=>by
  rw[B.rh.mem q y]
  by_cases e:y=x
  ·subst e;rw[hc,if_pos rfl];constructor
   ·rintro⟨a1,_,_,a3⟩;omega
   ·rintro⟨a1,_,_,a3⟩;simp only at a3;omega
  ·rw[hc,if_neg e]) hm hl hd
 unfold Qo UM;rw[hcs];refine⟨⟨by rw[hcs];exact r1,by rw[hcs];exact r2,fun q hq=>?_⟩,by simpa using r4,hl,hd,fun z hz=>?_,rfl⟩
 ·rw[hcs,r3 q];have hlen:=nO A x ⟨h,k,s⟩ (q:Int) hx;rw[←eA]at hlen;rw[if_neg ω]at hlen;have wx:wt A.cs.length G.F [(x:Int)]=1:=by
   unfold wt;simp only[List.map_cons,List.map_nil,List.sum_cons,List.sum_nil];rw[fK _ _ hx,al.2];rfl
  have wq:=B.w q hq
  by_cases e:q=h
  ·subst e;rw[if_pos ⟨rfl,ω⟩]at hlen;rw[if_pos rfl,wx];omega
  ·rw[if_neg (fun h=>e (by have:=h.1;simp only at this;omega))]at hlen;rw[if_neg e];omega
 ·have key:∃y:Nat,z=y/\y<A.cs.length/\((aK A h x k s).c y).i=(h:Int):=by
   rcases hz with hz|hz
   ·have hr:=(B.rh.row h).1 z hz;obtain⟨y,rfl⟩:=Int.eq_ofNat_of_zero_le hr.1;have:=(hm y).2 (Or.inl hz);exact⟨y,rfl,this.1,this.2.2⟩
   ·simp at hz;subst hz;have:=(hm x).2 (Or.inr σ);exact⟨x,rfl,this.1,this.2.2⟩
  obtain⟨y,rfl,h1,h2⟩:=key;exact hin y h1 h2
theorem Ug(B:Dk A G):∀ (m y:Nat),A.cs.length<=m+(G.F.k y).length->y<A.cs.length->0<(A.c y).i->∃T,T<A.cs.length/\G.F.u T=-1/\(A.c T).i=(A.c y).i/\(T=y\/bZ A T y)
 | m,y,hm,hy,hh=>by
  rcases B.fh.f.up y hy with h1|⟨p,hp,h1,h2⟩
  ·exact⟨y,hy,h1,rfl,Or.inl rfl⟩
  ·have hd:=B.fh.f.OV hy h1;have hl:=B.fh.f.len hp;have ho:(A.c y).i=(A.c p).i/\0<(A.c y).i:=B.fh.home y p hy h1
   match m,hm with
   | 0,hm=>omega
   | m+1,hm=>
    obtain⟨T,t1,t2,t3,t4⟩:=Ug B m p ω hp ω;refine⟨T,t1,t2,by rw[t3,ho.1],Or.inr ?_⟩;have hl:=B.fh.ord y p hy h1;rcases t4 with e|e
    ·rw[e];exact hl
    ·exact bV e hl
def mW(lt:Int->Int->Bool):Int->List Int->Int
 | b,[]=>b
 | b,x::t=>mW lt (if lt x b then x else b) t
theorem A7(lt:Int->Int->Bool):∀ (l:List Int) (b:Int),mW lt b l∈b::l
 | [],b=>by simp[mW]
 | x::t,b=>by
  have key:∀c,mW lt c t∈c::t:=fun c=>A7 lt t c;unfold mW;cases e:lt x b with
  | true=>
   rw[if_pos rfl];exact List.mem_cons_of_mem _ (key x)
  | false=>
   rw[if_neg σ];rcases ρ.1 (key b)with h|h
   ·rw[h];simp
   ·exact List.mem_cons_of_mem _ (List.mem_cons_of_mem _ h)
theorem yL{lt:Int->Int->Bool}{P:Int->Prop}(tr:∀a b c,P a->P b->P c->lt a b=true->lt b c=true->lt a c=true)(tot:∀a b,P a->P b->a≠b->lt a b=false->lt b a=true) :
  ∀ (l:List Int) (b:Int),P b->(∀x,x∈l->P x)->∀x,x∈b::l->x=mW lt b l\/lt (mW lt b l) x=true
 | [],b,_,_,x,hx=>by simp at hx;subst hx;exact Or.inl rfl
 | y::t,b,hb,hl,x,hx=>by
  have hy:=hl y σ;have ht:=fun z hz=>hl z (List.mem_cons_of_mem _ hz);unfold mW;have hP:P (if lt y b then y else b):=by split;exact hy;exact hb
  have ih:=yL tr tot t (if lt y b then y else b) hP ht;have abv:P (mW lt (if lt y b then y else b) t):=by
   rcases ρ.1 (A7 lt t (if lt y b then y else b))with e|e
   ·rw[e];exact hP
   ·exact ht _ e
  have via:∀z,P z->lt (if lt y b then y else b) z=true->z=mW lt (if lt y b then y else b) t\/lt (mW lt (if lt y b then y else b) t) z=true:=fun z hz h=>by
   rcases ih _ (List.mem_cons_self)with e|e
   ·rw[←e];exact Or.inr h
   ·exact Or.inr (tr _ _ _ abv hP hz e h)
  by_cases e:lt y b=true
  ·rw[if_pos e]at ih via⊢;rcases ρ.1 hx with e1|hx
   ·subst e1;exact via x hb e
   ·exact ih x hx
  ·rw[if_neg e]at ih via⊢;have e:lt y b=false:=by simpa using e
   rcases ρ.1 hx with e1|hx
   ·subst e1;exact ih x σ
   ·rcases ρ.1 hx with e1|hx
    ·subst e1
     by_cases exb:x=b
     ·subst exb;exact ih x σ
     ·exact via x hy (tot x b hy hb exb e)
    ·exact ih x (List.mem_cons_of_mem _ hx)
theorem Q9(B:Dk A G){h:Nat}{z:Int}(hz:z∈G.R h):∃y:Nat,z=y/\y<A.cs.length/\bS A z=true/\(A.c y).i=h/\G.F.u y=-1:=by
 have hr:=(B.rh.row h).1 z hz;obtain⟨y,rfl⟩:=Int.eq_ofNat_of_zero_le hr.1;have:=(B.rh.mem h y).1 hz;have h4:(A.c y).i=h:=this.2.2.2;exact⟨y,rfl,this.2.1,(ah _ _).2 ⟨this.2.1,ω⟩,h4,this.2.2.1⟩
theorem TQ(B:Dk A G){h:Nat}(h1:1<=h){x:Int}{t:List Int}(hR:G.R h=x::t):∃m:Nat,mW (bX A) x t=m/\dL A (h:Int)=some m/\m<A.cs.length/\G.F.u m=-1/\(A.c m).i=h:=by
 have hin:∀z,z∈x::t->∃y:Nat,z=y/\y<A.cs.length/\bS A z=true/\(A.c y).i=h/\G.F.u y=-1:=fun z hz=>Q9 B (by rw[hR];exact hz);obtain⟨m,e,m1,m2,m3,m4⟩:=hin _ (A7 (bX A) t x);refine⟨m,e,(iT ω).2 ⟨m1,m3,fun y hy hh=>?_⟩,m1,m4,m3⟩
 have F:=yL (lt:=bX A) (P:=fun z=>∃y:Nat,z=y/\bS A z=true) (fun a b c ha hb hc h1 h2=>by
  obtain⟨a,rfl,_⟩:=ha;obtain⟨b,rfl,_⟩:=hb;obtain⟨c,rfl,_⟩:=hc;rw[lY]at h1 h2⊢;simp only[Bool.and_eq_true,decide_eq_true_eq]at h1 h2⊢;exact⟨⟨h1.1.1,h2.1.2⟩,bV h1.2 h2.2⟩) (fun a b ha hb hne h1=>by
  obtain⟨a,rfl,ia⟩:=ha;obtain⟨b,rfl,ib⟩:=hb;have:=zH ia ib (fun e=>hne (by rw[e])) h1;rw[lY,ia,ib]
  simpa using this) t x (by obtain⟨y,e,_,i,_⟩:=hin x σ;exact⟨y,e,i⟩) (fun z hz=>by obtain⟨y,e,_,i,_⟩:=hin z (List.mem_cons_of_mem _ hz);exact⟨y,e,i⟩)
 obtain⟨T,t1,t2,t3,t4⟩:=Ug B A.cs.length y ω hy ω;have hT:(T:Int)∈x::t:=by rw[←hR];exact(B.rh.mem h T).2 ⟨h1,t1,t2,by rw[t3];exact hh⟩
 have hmT:T=m\/bZ A m T:=by
  rcases F _ hT with e2|e2
  ·rw[e]at e2;exact Or.inl ω
  ·rw[e,lY]at e2;simp only[Bool.and_eq_true,decide_eq_true_eq]at e2;exact Or.inr e2.2
 rcases t4 with e1|e1
 ·subst e1;exact hmT
 ·rcases hmT with e2|e2
  ·subst e2;exact Or.inr e1
  ·exact Or.inr (bV e2 e1)
theorem MN(B:Dk A G){h:Nat}(h1:1<=h)(hR:G.R h=[]):dL A (h:Int)=none:=by
 have:=B.w h h1;rw[hR]at this;exact(jQ ω).2 this.symm
end
end Go.Proofs.YtklibcncmbofpaaGreat
namespace Go.Proofs.YtklibcncmbofpaaGreat
open Go Go.RowKit
theorem VI{w:World}{base size n g cap:Nat}{e:TypeId}{xs:List Value}(h:w.ownsRow base e size (.slice (some ⟨g,0,none⟩) n cap) n xs)(j:Nat)(u:Value) :
  (w.setCell ⟨g,j,none⟩ u).ownsRow base e size (.slice (some ⟨g,0,none⟩) n cap) n (xs.set j u):=by
 rcases h.2 with⟨h1,_⟩|⟨g',cap',cur,h1,hb,hg,hn,hc,hs,ht⟩
 ·cases h1
 ·cases h1;refine⟨by rw[List.length_set];exact h.1,Or.inr ⟨g,cap,cur.setIfInBounds j u,rfl,hb,?_,hn,hc,by simp;exact hs,?_⟩⟩
  ·simp[World.setCell,Array.getElem?_modify,hg]
  ·rw[Array.toList_setIfInBounds]
   by_cases hj:j<n*size
   ·rw[List.take_set,ht]
   ·have hl:=h.1;rw[List.take_set_of_le ω,ht,List.set_eq_of_length_le ω]
theorem EL(p c:Nat):∀W:World,W.cell? ⟨p,0,none⟩=some (.pointer (some ⟨c,0,none⟩))->(method 429 174 (.pointer (some ⟨p,0,none⟩)) "Ahead").run Tryz.prog W=.ok (174,.pointer (some ⟨c,0,none⟩)) W:=(by intro W h;unfold method;have hm:∃m,(Array.find? (fun x=>x.name == "Ahead") Tryz.t174.methods)=some m/\m.path.toList=[⟨212,0,true⟩]/\m.func=some (174,true)/\m.path.isEmpty=false:=⟨(Array.find? (fun x=>x.name == "Ahead") Tryz.t174.methods).get!,by kernel_rfl,by kernel_rfl,by kernel_rfl,by kernel_rfl⟩;obtain⟨m,h1,h2,h3,h4⟩:=hm;go_simp;simp only[follow,Place.get];go_simp;(try unfold receiverAt);(try simp only[Place.get]);(try go_simp))
def bnO(A:NS)(p c:Nat)(F:List Nat)(st:Nat):uT where
 ty:=174
 p:=p
 rd:=p::c::F
 wr:=[c]
 lt:=bX A
 dom:=fun x=>bS A x=true
 at_:=fun w q=>p<w.heap.size/\p∉c::F/\w.cell? ⟨p,0,none⟩=some (.pointer (some ⟨c,0,none⟩))/\aF w c F A (bT st q)
 sub:=fun x hx=>by simp at hx;subst hx;simp
 low:=fun {w q} h x hx=>by
  obtain⟨h1,h2,h3,h4⟩:=h;rcases ρ.1 hx with rfl|hx
  ·exact h1
  ·rcases ρ.1 hx with rfl|hx
   ·exact h4.lt _ h4.mem
   ·exact h4.lt _ hx
 upd:=fun {w w' S q} h hu hS=>by
  obtain⟨h1,h2,h3,h4⟩:=h;exact⟨Nat.lt_of_lt_of_le h1 hu.size,h2,hu.kept h3 (fun hm=>hS _ hm σ),h4.upd hu (fun x hx hm=>hS x hx (by simp[hm]))⟩
 asym:=oO A
 ahead:=fun {w q} x y h hx hy hq=>by
  obtain⟨h1,h2,h3,h4⟩:=h;obtain⟨a,rfl⟩:=qC hx;obtain⟨b,rfl⟩:=qC hy;refine iN 174 (fun _ _=>by kernel_rfl) h3 (EL p c) (fun W hW=>?_);refine(fA (h4.au hW) a b hx hy).mono ?_;rintro e w' ⟨rfl,hC,hu⟩;refine⟨by rw[lY,hx,hy];simp,⟨Nat.lt_of_lt_of_le h1 (Nat.le_trans hW.size hu.size),h2,hu.kept (hW.was h3) (fun hm=>h2 (by simp at hm;simp[hm])),by rw[←iZ];exact hC⟩,hu⟩
structure BB where
 n0:Nat
 c:Nat
 bt:Nat
 ba:Nat
structure iU(w:World)(B:BB)(F:List Nat)(gr cr lo:Nat)(A:NS)(st:Nat)(S:CS)(vs:List Value)(R:Nat->List Int):Prop where
 head:aL w B.n0 212 3 (fun j=>[Value.pointer (some ⟨B.c,0,none⟩),.pointer (some ⟨B.bt,0,none⟩),.slice (some ⟨gr,0,none⟩) vs.length cr].getD j undef)
 cells:aF w B.c F A st
 jm:aY w B.bt B.ba lo A.cs.length S
 rows:w.ownsRow 0 26 1 (.slice (some ⟨gr,0,none⟩) vs.length cr) vs.length vs
 len:vs.length=A.hs.length
 each:∀h,h<vs.length->bu w 0 (vs.getD h undef) (R h)
 d1:B.n0∉F/\B.bt∉F/\B.ba∉F/\gr∉F
 d2:B.n0≠B.bt/\B.n0≠B.ba/\B.n0≠gr/\B.bt≠gr/\B.ba≠gr
 d3:∀g,g∈S.blk A.cs.length->g≠B.n0/\g≠gr/\g∉F
 d4:∀h g,h<vs.length->(vs.getD h undef).ownBlock=some g->g≠B.n0/\g≠B.bt/\g≠B.ba/\g≠gr/\g∉F/\g∉S.blk A.cs.length
 d5:∀h k g,h<vs.length->k<vs.length->h≠k->(vs.getD h undef).ownBlock=some g->(vs.getD k undef).ownBlock≠some g
def Yo(vs:List Value):List Nat:=vs.filterMap Value.ownBlock
theorem jK{vs:List Value}{g:Nat}:g∈Yo vs↔∃h,h<vs.length/\(vs.getD h undef).ownBlock=some g:=by
 unfold Yo;rw[List.mem_filterMap];constructor
 ·rintro⟨v,hv,e⟩;obtain⟨i,hi,rfl⟩:=List.getElem_of_mem hv;exact⟨i,hi,by simpa[φ,hi]using e⟩
 ·rintro⟨i,hi,e⟩;exact⟨vs[i],List.getElem_mem hi,by simpa[φ,hi]using e⟩
def BB.blk(B:BB)(F:List Nat)(gr n:Nat)(S:CS)(vs:List Value):List Nat:=B.n0::B.bt::B.ba::gr::(F++(S.blk n++Yo vs))
theorem uC(vs:List Value)(h k:Nat)(v:Value):(vs.set h v).getD k undef=if k=h/\h<vs.length then v else vs.getD k undef:=by
 simp only[φ,List.getElem?_set]
 by_cases e:h=k
 ·subst e
  by_cases hl:h<vs.length
  ·simp[hl]
  ·simp[hl]
 ·rw[if_neg e,if_neg (fun h'=>e h'.1.symm)]
section
variable {w:World}{B:BB}{F:List Nat}{gr cr lo:Nat}{A:NS}{st:Nat}{S:CS}{vs:List Value}{R:Nat->List Int}
theorem iU.FV(h:iU w B F gr cr lo A st S vs R):gr<w.heap.size:=(h.rows.lt gr rfl).2
theorem iU.yo(h:iU w B F gr cr lo A st S vs R){q g:Nat}(hq:q<vs.length)(e:(vs.getD q undef).ownBlock=some g):g<w.heap.size:=((h.each q hq).lt g e).2
theorem iU.lt(h:iU w B F gr cr lo A st S vs R):∀x,x∈B.blk F gr A.cs.length S vs->x<w.heap.size:=by
 intro x hx;have h1:=h.head.lt;have h2:=h.jm.head.lt;have h3:=h.jm.row.lt;have h4:=h.FV;simp only[BB.blk,ρ,τ]at hx;rcases hx with rfl|rfl|rfl|rfl|hx|hx|hx
 ·exact h1
 ·exact h2
 ·exact h3
 ·exact h4
 ·exact h.cells.lt x hx
 ·exact(h.jm.nX hx).2
 ·obtain⟨q,hq,e⟩:=jK.1 hx;exact h.yo hq e
theorem iU.h0(h:iU w B F gr cr lo A st S vs R):w.cell? ⟨B.n0,0,none⟩=some (.pointer (some ⟨B.c,0,none⟩)):=h.head.cellAt 0 ω rfl
theorem iU.h1(h:iU w B F gr cr lo A st S vs R):w.cell? ⟨B.n0,1,none⟩=some (.pointer (some ⟨B.bt,0,none⟩)):=h.head.cellAt 1 ω rfl
theorem iU.h2(h:iU w B F gr cr lo A st S vs R):w.cell? ⟨B.n0,2,none⟩=some (.slice (some ⟨gr,0,none⟩) vs.length cr):=h.head.cellAt 2 ω rfl
theorem iU.WM(h:iU w B F gr cr lo A st S vs R){q:Nat}(hq:q<vs.length):w.cell? ⟨gr,q,none⟩=some (vs.getD q undef):=by
 rw[h.rows.cellAt q ω];simp[φ,hq]
theorem iU.rowf(h:iU w B F gr cr lo A st S vs R)(q:Nat):w.frozen? ⟨gr,q,none⟩=false:=h.rows.frozenAt q
theorem iU.ZY(h:iU w B F gr cr lo A st S vs R):vs.length<=65537:=by rw[h.len];exact h.cells.ok.h1
theorem iU.cn(h:iU w B F gr cr lo A st S vs R):B.n0≠B.c/\gr≠B.c/\B.bt≠B.c/\B.ba≠B.c:=by
 have hm:=h.cells.mem;exact⟨fun e=>h.d1.1 (e▸hm),fun e=>h.d1.2.2.2 (e▸hm),fun e=>h.d1.2.1 (e▸hm),fun e=>h.d1.2.2.1 (e▸hm)⟩
theorem iU.upd{w':World}{G:List Nat}(h:iU w B F gr cr lo A st S vs R)(hu:aa G w w')(hG:∀x,x∈G->x∉B.blk F gr A.cs.length S vs):iU w' B F gr cr lo A st S vs R:=by
 have k:∀x,x∈B.blk F gr A.cs.length S vs->x∉G:=fun x hx hg=>hG x hg hx;refine⟨h.head.upd hu (k _ (by simp[BB.blk])),h.cells.upd hu (fun x hx hm=>hG x hx (by simp[BB.blk,hm])),h.jm.upd hu (k _ (by simp[BB.blk])) (k _ (by simp[BB.blk])) (fun g hg=>k _ (by simp[BB.blk,hg])),aC h.rows hu (fun g hg=>by simp[Value.ownBlock]at hg;subst hg;exact k _ (by simp[BB.blk])),h.len,fun q hq=>(h.each q hq).upd hu (fun g hg=>k _ ?_),h.d1,h.d2,h.d3,h.d4,h.d5⟩;simp only[BB.blk,ρ,τ];exact Or.inr (Or.inr (Or.inr (Or.inr (Or.inr (Or.inr (jK.2 ⟨q,hq,hg⟩))))))
theorem iU.au{w':World}(h:iU w B F gr cr lo A st S vs R)(hu:aa [] w w'):iU w' B F gr cr lo A st S vs R:=h.upd hu σ
theorem iU.cB{w':World}{F':List Nat}{A':NS}{st':Nat}(h:iU w B F gr cr lo A st S vs R)(hu:aa F w w')(hC:aF w' B.c F' A' st')(hF:∀x,x∈F'->x∈F\/w.heap.size<=x)(e1:A'.cs.length=A.cs.length)(e2:A'.hs.length=A.hs.length):iU w' B F' gr cr lo A' st' S vs R:=by
 have f:=h.d1;have g:=h.lt;have hf:∀x,x<w.heap.size->x∉F->x∉F':=fun x hx hn hm=>by rcases hF x hm with h'|h';exact hn h';omega
 have l0:=g B.n0 (by simp[BB.blk]);have l1:=g B.bt (by simp[BB.blk]);have l2:=g B.ba (by simp[BB.blk]);have l4:=g gr (by simp[BB.blk])
 refine⟨h.head.upd hu f.1,hC,by rw[e1];exact h.jm.upd hu f.2.1 f.2.2.1 (fun x hx=>(h.d3 x hx).2.2),aC h.rows hu (fun g hg=>by simp[Value.ownBlock]at hg;subst hg;exact f.2.2.2),by rw[e2];exact h.len,
  fun q hq=>(h.each q hq).upd hu (fun g hg=>(h.d4 q g hq hg).2.2.2.2.1),⟨hf _ l0 f.1,hf _ l1 f.2.1,hf _ l2 f.2.2.1,hf _ l4 f.2.2.2⟩,h.d2,fun x hx=>?_,fun q x hq hx=>?_,h.d5⟩
 ·rw[e1]at hx;have:=h.d3 x hx;exact⟨this.1,this.2.1,hf x (h.jm.nX hx).2 this.2.2⟩
 ·have:=h.d4 q x hq hx;rw[e1];exact⟨this.1,this.2.1,this.2.2.1,this.2.2.2.1,hf x (h.yo hq hx) this.2.2.2.2.1,this.2.2.2.2.2⟩
theorem iU.jW{w':World}{S':CS}{st':Nat}(h:iU w B F gr cr lo A st S vs R)(hu:aa (B.c::B.ba::S.blk A.cs.length) w w')(hC:aF w' B.c F A st')(hS:aY w' B.bt B.ba lo A.cs.length S')(hb:∀g,g∈S'.blk A.cs.length->g∈S.blk A.cs.length\/w.heap.size<=g):iU w' B F gr cr lo A st' S' vs R:=by
 have hcn:=h.cn;have g:=h.lt;have l0:=g B.n0 (by simp[BB.blk]);have l4:=g gr (by simp[BB.blk]);have k:∀x,x≠B.c->x≠B.ba->x∉S.blk A.cs.length->x∉B.c::B.ba::S.blk A.cs.length:=fun x h1 h2 h3 hm=>by
  simp only[ρ]at hm;rcases hm with hm|hm|hm
  ·exact h1 hm
  ·exact h2 hm
  ·exact h3 hm
 have hrow:∀q x,q<vs.length->(vs.getD q undef).ownBlock=some x->x∉B.c::B.ba::S.blk A.cs.length:=fun q x hq hx=>by
  have:=h.d4 q x hq hx;exact k x (fun e=>this.2.2.2.2.1 (e▸h.cells.mem)) this.2.2.1 this.2.2.2.2.2
 refine⟨h.head.upd hu (k _ hcn.1 h.d2.2.1 (fun hm=>(h.d3 _ hm).1 rfl)),hC,hS,aC h.rows hu (fun x hx=>by simp[Value.ownBlock]at hx;subst hx;exact k _ hcn.2.1 (Ne.symm h.d2.2.2.2.2) (fun hm=>(h.d3 _ hm).2.1 rfl)),h.len,fun q hq=>(h.each q hq).upd hu (fun x hx=>hrow q x hq hx),h.d1,h.d2,fun x hx=>?_,fun q x hq hx=>?_,h.d5⟩
 ·rcases hb x hx with h'|h'
  ·exact h.d3 x h'
  ·exact⟨ω,ω,fun hm=>by have:=h.cells.lt x hm;omega⟩
 ·have:=h.d4 q x hq hx;refine⟨this.1,this.2.1,this.2.2.1,this.2.2.2.1,this.2.2.2.2.1,fun hm=>?_⟩;rcases hb x hm with h'|h'
  ·exact this.2.2.2.2.2 h'
  ·have:=h.yo hq hx;omega
theorem iU.Xk{w1:World}{K:List Nat}(h:iU w B F gr cr lo A st S vs R)(q:Nat)(hq:q<vs.length)(hu1:aa K w w1)(hK:∀g,g∈K->(vs.getD q undef).ownBlock=some g)(v:Value)(X:List Int)(hv:bu w1 0 v X)
  (hg:∀g,v.ownBlock=some g->(g≠B.n0/\g≠B.bt/\g≠B.ba/\g≠gr/\g∉F/\g∉S.blk A.cs.length)/\∀k,k<vs.length->k≠q->(vs.getD k undef).ownBlock≠some g) :
  iU (w1.setCell ⟨gr,q,none⟩ v) B F gr cr lo A st S (vs.set q v) (dA R q X):=by
 have hu:aa [gr] w1 (w1.setCell ⟨gr,q,none⟩ v):=β;have kk:∀g,g∈K->g≠B.n0/\g≠B.bt/\g≠B.ba/\g≠gr/\g∉F/\g∉S.blk A.cs.length:=fun g hg=>h.d4 q g hq (hK g hg);have e:∀k,k<vs.length->(vs.set q v).getD k undef=if k=q then v else vs.getD k undef:=fun k hk=>by
  rw[uC]
  by_cases e:k=q
  ·rw[if_pos ⟨e,hq⟩,if_pos e]
  ·rw[if_neg (fun h=>e h.1),if_neg e]
 refine⟨by rw[List.length_set];exact(h.head.upd hu1 (fun hm=>(kk _ hm).1 rfl)).upd hu (by simp;exact h.d2.2.2.1),(h.cells.upd hu1 (fun x hx=>(kk x hx).2.2.2.2.1)).upd hu (fun x hx hm=>by simp at hx;subst hx;exact h.d1.2.2.2 hm),
  (h.jm.upd hu1 (fun hm=>(kk _ hm).2.1 rfl) (fun hm=>(kk _ hm).2.2.1 rfl) (fun g hg hm=>(kk g hm).2.2.2.2.2 hg)).upd hu (by simp;exact h.d2.2.2.2.1) (by simp;exact h.d2.2.2.2.2) (fun x hx hm=>by simp at hm;exact(h.d3 x hx).2.1 hm),
  by rw[List.length_set];exact VI (aC h.rows hu1 (fun g hg hm=>by simp[Value.ownBlock]at hg;subst hg;exact(kk _ hm).2.2.2.1 rfl)) q v,by rw[List.length_set];exact h.len,fun k hk=>?_,h.d1,h.d2,h.d3,fun k g hk e2=>?_,fun k j g hk hj hne e2=>?_⟩
 ·rw[List.length_set]at hk;rw[e k hk];unfold dA
  by_cases ek:k=q
  ·rw[if_pos ek,if_pos ek];exact hv.upd hu (fun g hg2 hm=>by simp at hm;exact(hg g hg2).1.2.2.2.1 hm)
  ·rw[if_neg ek,if_neg ek];exact((h.each k hk).upd hu1 (fun g hg2 hm=>h.d5 k q g hk hq ek hg2 (hK g hm))).upd hu (fun g hg2 hm=>by simp at hm;exact(h.d4 k g hk hg2).2.2.2.1 hm)
 ·rw[List.length_set]at hk;rw[e k hk]at e2
  split at e2
  ·exact(hg g e2).1
  ·exact h.d4 k g hk e2
 ·rw[List.length_set]at hk hj;rw[e k hk]at e2;rw[e j hj]
  split at e2
  ·rename_i ek
   rw[if_neg (fun ej=>hne ω)];exact(hg g e2).2 j hj (fun ej=>hne ω)
  ·rename_i ek
   split
   ·rename_i ej
    intro e3;exact(hg g e3).2 k hk ek e2
   ·exact h.d5 k j g hk hj hne e2
theorem iU.Cb(h:iU w B F gr cr lo A st S vs R)(q:Nat)(hq:q<vs.length)(v:Value)(X:List Int)(hv:bu w 0 v X)
  (hg:∀g,v.ownBlock=some g->(g≠B.n0/\g≠B.bt/\g≠B.ba/\g≠gr/\g∉F/\g∉S.blk A.cs.length)/\∀k,k<vs.length->k≠q->(vs.getD k undef).ownBlock≠some g) :
  iU (w.setCell ⟨gr,q,none⟩ v) B F gr cr lo A st S (vs.set q v) (dA R q X):=h.Xk (K:=[]) q hq (aa.refl _ _) σ v X hv hg
theorem iU.abD{w1:World}(h:iU w B F gr cr lo A st S vs R)(q:Nat)(hq:q<vs.length)(hu:aa (vs.getD q undef).ownBlock.toList w w1)(v:Value)(X:List Int)(hv:bu w1 0 v X)(he:v.ownBlock=(vs.getD q undef).ownBlock) :
  iU (w1.setCell ⟨gr,q,none⟩ v) B F gr cr lo A st S (vs.set q v) (dA R q X):=
 h.Xk q hq hu (fun g hg=>by simpa using hg) v X hv (fun g hg=>⟨h.d4 q g hq (by rw[←he];exact hg),fun k hk hne e=>h.d5 k q g hk hq hne e (by rw[←he];exact hg)⟩)
end
theorem bu.sl{w:World}{base:Nat}{F:List Nat}{v:Value}{xs:List Int}(h:bu w base v xs)(hF:∀g,v.ownBlock=some g->g∉F):gI w F v xs:=by
 obtain⟨a,cap,rfl,h1,h2,h3⟩:=h.shape;refine⟨a,cap,rfl,h1,h2,fun j u hj=>?_⟩;obtain⟨g,off,rfl,hc⟩:=h3 j u hj;exact⟨g,off,rfl,(h.lt g rfl).2,hF g rfl,hc⟩
section
variable {w:World}{B:BB}{F:List Nat}{gr cr lo:Nat}{A:NS}{st:Nat}{S:CS}{vs:List Value}{R:Nat->List Int}
theorem iU.shape(h:iU w B F gr cr lo A st S vs R){q:Nat}(hq:q<vs.length):∃a cap,vs.getD q undef=.slice a (R q).length cap/\(R q).length<=cap/\cap<=9223372036854775807:=by
 obtain⟨a,cap,e,h1,h2,_⟩:=(h.each q hq).shape;exact⟨a,cap,e,h1,h2⟩
theorem iU.hq(h:iU w B F gr cr lo A st S vs R){q:Int}(hh:bJ A q=true):∃k:Nat,q=k/\1<=k/\k<vs.length:=by
 have:=(aV _ _).1 hh;have e:=h.len;exact⟨q.toNat,ω,ω,ω⟩
theorem TA(M:iU w B F gr cr lo A st S vs R)(q:Nat)(hh:bJ A q=true){a:Option Addr}{n cap:Nat}(hv:vs.getD q undef=.slice a n cap) :
  Calls Tryz.prog 187 #[.pointer (some ⟨B.n0,0,none⟩),.int .i64 (q:Int)] w fun e w'=>e=.returned (.slice a n cap)/\w'=w:=by
 have k:=jN M.cells (q:Int);rw[hh]at k;have h0:=M.h0;have h2:=M.h2;obtain⟨q',e,_,hq⟩:=M.hq hh;obtain rfl:q=q':=ω;have d:=M.WM hq;rw[hv]at d;have BP:(0:Int)<=(q:Int):=ω;have Hy:(q:Int)<(vs.length:Int):=ω;clear M hh hv e
 go_enter Tryz.func187,Tryz.ntmps187
 go_wp2_with ((go_at_call 139;(with_reducible refine(k).mono ?_);rintro e w9 ⟨rfl,aJ⟩;rw[aJ];clear aJ w9))
 go_ret;exact⟨rfl,rfl⟩
theorem WJ(M:iU w B F gr cr lo A st S vs R)(q:Int)(hh:bJ A q=false) :
  Calls Tryz.prog 187 #[.pointer (some ⟨B.n0,0,none⟩),.int .i64 q] w fun e w'=>e=.returned (.slice none 0 0)/\w'=w:=by
 have k:=jN M.cells q;rw[hh]at k;have h0:=M.h0;clear M hh
 go_enter Tryz.func187,Tryz.ntmps187
 go_wp2_with ((go_at_call 139;(with_reducible refine(k).mono ?_);rintro e w9 ⟨rfl,aJ⟩;rw[aJ];clear aJ w9))
 go_ret;exact⟨rfl,rfl⟩
theorem iU.ord(M:iU w B F gr cr lo A st S vs R):(bnO A B.n0 B.c F st).at_ w 0:=by
 have h:=M.cells.pF;refine⟨M.head.lt,?_,M.h0,by rw[gK h];exact M.cells⟩;simp only[ρ,not_or];exact⟨M.cn.1,M.d1.1⟩
theorem iU.apart(M:iU w B F gr cr lo A st S vs R):Apart (bnO A B.n0 B.c F st) B.bt B.ba A.cs.length S:=by
 have hc:=M.cn;refine⟨?_,?_,fun g hg=>?_⟩
 ·show B.bt∉B.n0::B.c::F
  simp only[ρ,not_or];exact⟨Ne.symm M.d2.1,hc.2.2.1,M.d1.2.1⟩
 ·show B.ba∉B.n0::B.c::F
  simp only[ρ,not_or];exact⟨Ne.symm M.d2.2.1,hc.2.2.2,M.d1.2.2.1⟩
 ·show g∉B.n0::B.c::F
  have:=M.d3 g hg;simp only[ρ,not_or];exact⟨this.1,fun e=>this.2.2 (e▸M.cells.mem),this.2.2⟩
theorem K7(M:iU w B F gr cr lo A st S vs R)(ok:oK A.cs.length S.f){va vl:Value}{X L:List Int}(hva:gI w (B.c::B.ba::S.blk A.cs.length) va X)(hvl:gI w (B.c::B.ba::S.blk A.cs.length) vl L)
  (hA:lS A.cs.length S.f X) (hB:lS A.cs.length S.f L) (hd:∀x,x∈X->x∉L) (hin:∀z,z∈X\/z∈L->bS A z=true) :
  Calls Tryz.prog 194 #[.pointer (some ⟨B.bt,0,none⟩),.iface 174 (.pointer (some ⟨B.n0,0,none⟩)),va,vl] w fun e w'=>
   ∃S' vo,e=.returned (.tuple #[vo,.bool true])/\S'.f=(lu (bX A) A.cs.length S.f X L).F/\iU w' B F gr cr lo A (bT st (lu (bX A) A.cs.length S.f X L).q) S' vs R/\bu w' w.heap.size vo (lu (bX A) A.cs.length S.f X L).O/\
    aa (B.c::B.ba::S.blk A.cs.length) w w'/\(∀g,g∈S'.blk A.cs.length->g∈S.blk A.cs.length\/w.heap.size<=g)/\(∀g,vo.ownBlock=some g->g∉S'.blk A.cs.length)/\∃a n cap,vo=.slice a n cap:=by
 refine(O0 (bnO A B.n0 B.c F st) B.bt B.ba lo A.cs.length S va vl X L 0 w ⟨M.jm,M.ord,M.apart,M.jm.head.lt,ok⟩ hva hvl hA hB hd (Nat.zero_le _) (fun x hx=>hin x (Or.inl hx)) (fun x hx=>hin x (Or.inr hx))).mono ?_;rintro e w' ⟨S',vo,O,q',rfl,hFL,hTo,hG,hO,hS,hu,hb,hx⟩;obtain⟨e1,e2,e3⟩:=ZW hG (oO A) M.jm.le hTo;have e1:(lu (bX A) A.cs.length S.f X L).F=S'.f:=e1;have e2:(lu (bX A) A.cs.length S.f X L).O=O:=e2;have e3:(lu (bX A) A.cs.length S.f X L).q=q':=e3;rw[e1,e2,e3];obtain⟨a,cap,e4,_⟩:=hO.shape;exact⟨S',vo,rfl,rfl,M.jW hu hFL.l.2.2.2 hFL.f hb,hO,hu,hb,hx,a,_,cap,e4⟩
theorem Ib(M:iU w B F gr cr lo A st S vs R)(ok:oK A.cs.length S.f)(q:Nat)(hq:q<vs.length){vl:Value}{L:List Int}(hvl:gI w (B.c::B.ba::S.blk A.cs.length) vl L)
  (hA:lS A.cs.length S.f (R q)) (hB:lS A.cs.length S.f L) (hd:∀x,x∈R q->x∉L) (hin:∀z,z∈R q\/z∈L->bS A z=true) :
  Calls Tryz.prog 186 #[.pointer (some ⟨B.n0,0,none⟩),.int .i64 (q:Int),vl] w fun e w'=>
   ∃S' vo,e=.returned (.tuple #[])/\S'.f=(lu (bX A) A.cs.length S.f (R q) L).F/\iU w' B F gr cr lo A (bT st (lu (bX A) A.cs.length S.f (R q) L).q) S' (vs.set q vo) (dA R q (lu (bX A) A.cs.length S.f (R q) L).O)/\
    aa (B.c::B.ba::gr::S.blk A.cs.length) w w'/\(∀g,g∈S'.blk A.cs.length->g∈S.blk A.cs.length\/w.heap.size<=g)/\(∀g,vo.ownBlock=some g->w.heap.size<=g):=by
 have hrow:gI w (B.c::B.ba::S.blk A.cs.length) (vs.getD q undef) (R q):=(M.each q hq).sl (fun g hg hm=>by
  have:=M.d4 q g hq hg;simp only[ρ]at hm;rcases hm with e|e|e
  ·exact this.2.2.2.2.1 (e▸M.cells.mem)
  ·exact this.2.2.1 e
  ·exact this.2.2.2.2.2 e)
 have kc:=fun W (hW:aa [] w W)=>K7 (M.au hW) ok (hrow.upd hW σ) (hvl.upd hW σ) hA hB hd hin;obtain⟨a,cap,hv,_⟩:=M.shape hq;obtain⟨a2,cap2,hv2,_⟩:=hvl;subst hv2;rw[hv]at kc;have h1:=M.h1;have h2:=M.h2;have d:=M.WM hq;rw[hv]at d;have df:=M.rowf q;have hcn:=M.cn;have nn:∀x,x≠B.c->x≠B.ba->x∉S.blk A.cs.length->x∉B.c::B.ba::S.blk A.cs.length:=fun x h1 h2 h3 hm=>by
  simp only[ρ]at hm;rcases hm with hm|hm|hm
  ·exact h1 hm
  ·exact h2 hm
  ·exact h3 hm
 have n0:B.n0∉B.c::B.ba::S.blk A.cs.length:=nn _ hcn.1 M.d2.2.1 (fun hm=>(M.d3 _ hm).1 rfl);have ng:gr∉B.c::B.ba::S.blk A.cs.length:=nn _ hcn.2.1 (Ne.symm M.d2.2.2.2.2) (fun hm=>(M.d3 _ hm).2.1 rfl);have r1:∀W,aa (B.c::B.ba::S.blk A.cs.length) w W->W.cell? ⟨B.n0,1,none⟩=some (.pointer (some ⟨B.bt,0,none⟩)):=fun W hW=>hW.kept h1 n0;have r2:∀W,aa (B.c::B.ba::S.blk A.cs.length) w W->W.cell? ⟨B.n0,2,none⟩=some (.slice (some ⟨gr,0,none⟩) vs.length cr):=fun W hW=>hW.kept h2 n0
 have r3:∀W,aa (B.c::B.ba::S.blk A.cs.length) w W->W.cell? ⟨gr,q,none⟩=some (.slice a (R q).length cap)/\W.frozen? ⟨gr,q,none⟩=false:=fun W hW=>⟨hW.kept d ng,hW.aS d ng df⟩
 have BP:(0:Int)<=(q:Int):=ω;have Hy:(q:Int)<(vs.length:Int):=ω;have hgl:=M.FV;have HM:=χ M;have hvl2:=M.ZY;clear M hrow hA hB hd hin hv hcn nn;generalize hC:lu (bX A) A.cs.length S.f (R q) L=C at *;generalize hrl:(R q).length=rl at *;generalize hll:L.length=ll at *;clear hC hrl hll
 go_enter Tryz.func186,Tryz.ntmps186
 go_wp2
 go_region_law
  (first
   | (go_simp;go_at_call 194;(with_reducible refine(kc _ β).mono ?_);rintro e w5 ⟨S5,vo,rfl,hS5,wL,BO,xK,hb5,hx5,a5,n5,c5,rfl⟩;(have bW:aa (B.c::B.ba::S.blk A.cs.length) w w5:=aa.trans β xK);(have q1:=r1 _ bW);(have q2:=r2 _ bW);obtain⟨q3,q4⟩:=r3 _ bW))
 all_goals
  go_wp2;go_end0;refine⟨S5,_,rfl,hS5,wL.Cb q hq _ C.O (BO.mono (Nat.zero_le _)) (fun g hg=>?_),(bW.mono (fun y hy=>?_)).setCell (Or.inl σ) _,fun g hg=>?_,fun g hg=>?_⟩
  ·have hgs:=(BO.lt g hg).1;have ll:=HM.out.lt;have hw:w.heap.size<=g:=hgs;refine⟨⟨?_,?_,?_,?_,fun hm=>?_,hx5 g hg⟩,fun k hk hne e=>?_⟩
   ·have:=ll B.n0 (by simp[BB.blk]);omega
   ·have:=ll B.bt (by simp[BB.blk]);omega
   ·have:=ll B.ba (by simp[BB.blk]);omega
   ·omega
   ·have:=HM.out.cells.lt g hm;omega
   ·have:=HM.out.yo hk e;omega
  ·simp only[ρ]at hy⊢;rcases hy with hy|hy|hy
   ·exact Or.inl hy
   ·exact Or.inr (Or.inl hy)
   ·exact Or.inr (Or.inr (Or.inr hy))
  ·exact hb5 g hg
  ·exact(BO.lt g hg).1
end
theorem bu.row{w:World}{base:Nat}{v:Value}{xs:List Int}(h:bu w base v xs)(hne:xs≠[]):∃g off cap m f,v=.slice (some ⟨g,off,none⟩) xs.length cap/\base<=g/\aL w g 3 m f/\xs.length<=cap/\cap<=9223372036854775807/\off+cap<=m/\∀j u,xs[j]?=some u->f (off+j)=.int .i64 u:=by
 rcases h with⟨_,e⟩|⟨g,off,cap,cur,rfl,hb,hg,h1,h2,h3,h4⟩
 ·exact absurd e hne
 ·refine⟨g,off,cap,cur.size,fun j=>cur.getD j undef,rfl,hb,⟨cur,hg,rfl,fun j hj=>by simp[hj]⟩,h1,h2,h3,fun j u hj=>?_⟩;have:=h4 j u hj;simp[Array.getD_eq_getD_getElem?,this]
theorem aL.off{w:World}{base g off cap m:Nat}{f:Nat->Value}{ys:List Int}(h:aL w g 3 m f)(hb:base<=g)(h1:ys.length<=cap)(h2:cap<=9223372036854775807)(h3:off+cap<=m)(h4:∀j u,ys[j]?=some u->f (off+j)=.int .i64 u):bu w base (.slice (some ⟨g,off,none⟩) ys.length cap) ys:=by
 obtain⟨arr,a1,a2,a3⟩:=h;refine Or.inr ⟨g,off,cap,arr,rfl,hb,a1,h1,h2,ω,fun j u hj=>?_⟩;have hjl:j<ys.length:=(List.getElem?_eq_some_iff.1 hj).1;rw[a3 (off+j) ω,h4 j u hj]
theorem CY(w:World)(b:Nat)(x y:Int)(h:w.cell? ⟨b,0,none⟩=some (.int .i64 x)) :
  Calls Tryz.prog 192 #[.int .i64 y,.pointer (some ⟨b,0,none⟩)] w fun e w'=>e=.returned (.bool (x == y))/\w'=w:=by
 go_enter Tryz.func192,Tryz.ntmps192
 go_wp2;go_ret;exact⟨rfl,rfl⟩
theorem Jn(w:World)(F:List Nat)(b:Nat)(v:Value)(l1 l2:List Int)(x:Int)(h:gI w F v (l1++x::l2))(hn:x∉l1)(hb:w.cell? ⟨b,0,none⟩=some (.int .i64 x)) :
  Calls Tryz.prog 197 #[v,.func (Fn.func 192) #[] #[.pointer (some ⟨b,0,none⟩)]] w fun e w'=>e=.returned (.int .i64 (l1.length:Int))/\w'=w:=by
 obtain⟨a,cap,rfl,hlc,hcp,hp⟩:=h;have HP:=χ hp;clear hp;have hg:∀q,q<l1.length->(l1++x::l2)[q]?=l1[q]?:=fun q hq=>List.getElem?_append_left hq;have hx:(l1++x::l2)[l1.length]?=some x:=by rw[List.getElem?_append_right (Nat.le_refl _)];simp
 have hl:l1.length<(l1++x::l2).length:=σ;generalize l1++x::l2=xs at *;generalize hxl:xs.length=len at *;have HN:=χ (ψ hn (ψ hg hx));have kc:=fun y=>CY w b x y hb;clear hn hg hx hb hxl;generalize hk:l1.length=k at *;have HK:=χ hk;clear hk
 go_enter Tryz.func197,Tryz.ntmps197
 go_wp2
 go_loop [8] (fun i=>∃q:Nat,q<=k/\i=.int .i64 (q:Int)) (fun i=>k+1-(intOf i).toNat)
 case atStart=>exact⟨0,ω,rfl⟩
 case round=>
  obtain⟨q,hq,rfl⟩:=hrel;have hql:(q:Int)<(len:Int):=ω
  by_cases hqk:q<k
  ·obtain⟨y,pK⟩:∃y,l1[q]?=some y:=⟨l1[q]'(by rw[HK.out];exact hqk),σ⟩;obtain⟨gb,off,rfl,_,_,hc⟩:=HP.out q y (by rw[HN.out.2.1 q hqk];exact pK);have k1:=kc y;have hxy:(x == y)=false:=by
    have:x≠y:=fun e=>HN.out.1 (by rw[e];exact List.mem_of_getElem? pK);simpa using this
   rw[hxy]at k1;clear pK kc
   go_wp2_with ((go_at_call 192;(with_reducible refine(k1).mono ?_);rintro e w9 ⟨rfl,aJ⟩;rw[aJ];clear aJ w9))
   go_round
   case rel=>exact⟨q+1,ω,by go_num⟩
   case measure=>simp[intOf];omega
  ·obtain rfl:q=k:=ω;obtain⟨gb,off,rfl,_,_,hc⟩:=HP.out q x HN.out.2.2;have k1:=kc x;rw[show(x == x)=true by simp]at k1;clear kc
   go_wp2_with ((go_at_call 192;(with_reducible refine(k1).mono ?_);rintro e w9 ⟨rfl,aJ⟩;rw[aJ];clear aJ w9))
   go_ret;exact⟨rfl,rfl⟩
theorem QC(w:World):(zeroValue 3).run Tryz.prog w=.ok (.int .i64 0) w:=by kernel_rfl
theorem QS(w:World)(b base:Nat)(v:Value)(l1 l2:List Int)(x:Int)(h:bu w base v (l1++x::l2))(hn1:x∉l1)(hn2:x∉l2)(hb:w.cell? ⟨b,0,none⟩=some (.int .i64 x))(hbv:v.ownBlock≠some b)(hlen:(l1++x::l2).length<=1000000) :
  Calls Tryz.prog 191 #[v,.func (Fn.func 192) #[] #[.pointer (some ⟨b,0,none⟩)]] w fun e w'=>∃v',e=.returned v'/\bu w' base v' (l1++l2)/\v'.ownBlock=v.ownBlock/\aa v.ownBlock.toList w w'/\∃a n c,v'=.slice a n c:=by
 have ki:=Jn w [] b v l1 l2 x (by
  obtain⟨a,cap,rfl,h1,h2,h3⟩:=h.shape;refine⟨a,cap,rfl,h1,h2,fun j u hj=>?_⟩;obtain⟨g,off,rfl,hc⟩:=h3 j u hj
  exact⟨g,off,rfl,(h.lt g rfl).2,σ,hc⟩) hn1 hb
 obtain⟨g,off,cap,m,f,rfl,hbg,hR,hlc,hcp,hcm,hf⟩:=h.row σ;have hbg2:b≠g:=fun e=>hbv (by rw[e];rfl);have hx1:∀j,j<l1.length->(l1++x::l2)[j]?=l1[j]?:=fun j hj=>List.getElem?_append_left hj;have hx2:∀j,l1.length<j->(l1++x::l2)[j]?=l2[j-(l1.length+1)]?:=fun j hj=>by
  rw[List.getElem?_append_right ω,show j-l1.length=(j-(l1.length+1))+1 by omega,List.getElem?_cons_succ]
 have hln:(l1++x::l2).length=l1.length+l2.length+1:=ζ;simp only[hln]at hlc hlen ki⊢;have hy1:∀j,j<l1.length->(l1++l2)[j]?=l1[j]?:=fun j hj=>List.getElem?_append_left hj;have hy2:∀j,l1.length<=j->(l1++l2)[j]?=l2[j-l1.length]?:=fun j hj=>List.getElem?_append_right hj;have hyl:(l1++l2).length=l1.length+l2.length:=σ;have HF:=χ (ψ hf (ψ hx1 (ψ hx2 (ψ hy1 (ψ hy2 hyl)))));have HR:=χ hR;have HN:=χ hn2;clear h hf hx1 hx2 hy1 hy2 hyl hn1 hn2 hR;have hlt:g<w.heap.size:=HR.out.lt;generalize hk:l1.length=k at *;generalize hl:l2.length=l at *;have HK:=χ (ψ hk hl)
 have hkm1:((k:Int) == -1)=false:=beq_eq_false_iff_ne.2 ω;have hwr0:IntKind.i64.wrap ((k:Int)+1)=((k+1:Nat):Int):=by rw[IntWalk.i64_in _ ω];omega
 clear hk hl hln hlen hbv
 go_enter Tryz.func191,Tryz.ntmps191
 go_wp2_with ((go_at_call 197;(with_reducible refine(ki).mono ?_);rintro e w9 ⟨rfl,aJ⟩;rw[aJ];clear aJ w9))
 clear ki
 go_loopw [5,6,7] (fun s5 s6 _ wr=>∃ (j:Nat) (fj:Nat->Value),s5=.int .i64 ((k+j:Nat):Int)/\s6=.int .i64 ((k+j+1:Nat):Int)/\j<=l/\aL wr g 3 m fj/\(∀q,q<off+k->fj q=f q)/\(∀q u,q<j->l2[q]?=some u->fj (off+k+q)=.int .i64 u)/\(∀q,off+k+j<=q->fj q=f q)/\aa [g] w wr) (fun _ s6 _ _=>k+l+1-(intOf s6).toNat)
 case atStart=>exact⟨0,f,σ,σ,ω,HR.out,fun q hq=>rfl,fun q u hq=>ω,fun q hq=>rfl,aa.refl _ _⟩
 case round=>
  obtain⟨j,fj,rfl,rfl,hj,hRj,hf1,hf2,hf3,hu⟩:=hrel;rename World=>wr;have HJ:=χ (ψ hf1 (ψ hf2 hf3));have HRj:=χ hRj;have HJR:=χ hRj;have hbc:=hu.kept hb (by simp;exact hbg2)
  by_cases hjl:j<l
  ·obtain⟨y,pK⟩:∃y,l2[j]?=some y:=⟨l2[j]'(by rw[HK.out.2];exact hjl),σ⟩;have c0:=hRj.cellAt (off+(k+j+1)) ω ((hf3 _ ω).trans (HF.out.1 (k+j+1) y (by rw[HF.out.2.2.1 _ ω,show k+j+1-(k+1)=j by omega];exact pK)));have c1:=hRj.cell (off+(k+j)) ω;have f1:=hRj.free (off+(k+j));have hxy:(x == y)=false:=by
    have:x≠y:=fun e=>HN.out (by rw[e];exact List.mem_of_getElem? pK);simpa using this
   have kc:=CY wr b x y hbc;rw[hxy]at kc;have hi1:((k+j+1:Nat):Int)<((k+l+1:Nat):Int):=ω;have hi2:((k+j:Nat):Int)<((k+l+1:Nat):Int):=ω;have hw1:IntKind.i64.wrap (((k+j:Nat):Int)+1)=((k+(j+1):Nat):Int):=by rw[IntWalk.i64_in _ ω];omega
   have hw2:IntKind.i64.wrap (((k+j+1:Nat):Int)+1)=((k+(j+1)+1:Nat):Int):=by rw[IntWalk.i64_in _ ω];omega
   have HY:=χ pK;clear hf1 hf2 hf3 hRj pK;generalize hA:k+j+1=ja at *;generalize hB:k+j=jb at *;generalize hL:k+l+1=jl at *
   go_wp2_with ((go_at_call 192;(with_reducible refine(kc).mono ?_);rintro e w9 ⟨rfl,aJ⟩;rw[aJ];clear aJ w9))
   go_roundw
   case rel=>
    refine⟨j+1,_,by go_num,by go_num,ω,HRj.out.set (off+jb) _,fun q hq=>?_,fun q u hq hqu=>?_,fun q hq=>?_,hu.setCell (Or.inl σ) _⟩
    ·rw[if_neg ω];exact HJ.out.1 q hq
    ·by_cases e:q=j
     ·subst e;rw[if_pos ω];rw[HY.out]at hqu;cases hqu;rfl
     ·rw[if_neg ω];exact HJ.out.2.1 q u ω hqu
    ·rw[if_neg ω];exact HJ.out.2.2 q ω
   case measure=>simp[intOf];omega
  ·obtain rfl:j=l:=ω;have c1:=hRj.cell (off+(k+j)) ω;have f1:=hRj.free (off+(k+j));have hcl:∀ty,(Builtin.clear_ #[26] ty #[.slice (some ⟨g,off+(k+j),none⟩) 1 (cap-(k+j))]).run Tryz.prog wr=.ok (.tuple #[]) (wr.setCell ⟨g,off+(k+j),none⟩ (.int .i64 0)):=fun ty=>by
    have:=Lib.run_clear_slice wr 26 3 ty (.int .i64 0) Tryz.underlying26 QC rfl rfl g (off+(k+j)) 1 (cap-(k+j)) ω (fun t ht=>by rw[show off+(k+j)+t=off+(k+j) by omega,c1];rfl) (fun t ht=>by rw[show off+(k+j)+t=off+(k+j) by omega];exact f1);rw[this]
    rfl
   have HCM:=χ hcm;have hi3:¬ ((k+j+1:Nat):Int)<((k+j+1:Nat):Int):=ω;have hJB:=χ (show k+j=k+j from rfl);clear hf1 hf2 hf3 hRj c1 hcm hbc hb;generalize hB:k+j=jb at *;go_wp2;go_ret;have hR2:=HJR.out.set (off+jb) (.int .i64 0);have hk1:=HK.out.1;have hk2:=HK.out.2;have hlen:(l1++l2).length=jb:=by have:=HF.out.2.2.2.2.2;omega
   have hO:=hR2.off (base:=base) (ys:=l1++l2) (off:=off) (cap:=cap) hbg ω hcp HCM.out (fun q u hq=>by
    have hql:q<(l1++l2).length:=(List.getElem?_eq_some_iff.1 hq).1;rw[if_neg ω]
    by_cases e:q<k
    ·rw[HJ.out.1 (off+q) ω];exact HF.out.1 q u (by rw[HF.out.2.1 q ω];rw[HF.out.2.2.2.1 q ω]at hq;exact hq)
    ·have h3:=HF.out.2.2.2.2.1 q ω;have h5:l2[q-k]?=some u:=by rw[←hq,h3]
     have:=HJ.out.2.1 (q-k) u ω h5;rw[show off+k+(q-k)=off+q by omega]at this
     exact this)
   rw[hlen]at hO;exact⟨_,rfl,hO,rfl,hu.setCell (Or.inl σ) _,_,_,_,rfl⟩
def BnAt(w:World)(p:Nat)(FF:List Nat)(A:NS)(st:Nat)(G:BG):Prop:=∃B F gr cr lo S vs,p=B.n0/\FF=B.blk F gr A.cs.length S vs/\iU w B F gr cr lo A st S vs G.R/\S.f=G.F
theorem Qa{l:List Int}{x:Int}(hn:l.Nodup)(hx:x∈l):∃l1 l2,l=l1++x::l2/\x∉l1/\x∉l2/\l.filter (fun z=>z != x)=l1++l2:=by
 obtain⟨l1,l2,rfl⟩:=List.append_of_mem hx;rw[θ,List.nodup_cons]at hn;have h1:x∉l1:=fun h=>hn.2.2 x h x σ rfl;have h2:x∉l2:=hn.2.1.1;refine⟨l1,l2,rfl,h1,h2,?_⟩;have f:∀l:List Int,x∉l->l.filter (fun z=>z != x)=l:=fun l hl=>by
  rw[List.filter_eq_self];intro a ha;simp;intro e;subst e;exact hl ha
 rw[List.filter_append,List.filter_cons_of_neg σ,f l1 h1,f l2 h2]
section
variable {w:World}{B:BB}{F:List Nat}{gr cr lo:Nat}{A:NS}{st:Nat}{S:CS}{vs:List Value}{G:BG}
theorem Oa(M:iU w B F gr cr lo A st S vs G.R)(eF:S.f=G.F){x h:Nat}(X:Fx A G x)(hx:x<A.cs.length)(hr:G.F.u x=-1)(hin:0<(A.c x).i)(hh:(A.c x).i=h)(hq:h<vs.length) :
  Calls Tryz.prog 185 #[.pointer (some ⟨B.n0,0,none⟩),.int .i64 (h:Int),.int .i64 (x:Int)] w fun e w'=>e=.returned (.bool true)/\
   Goes (B.blk F gr A.cs.length S vs) w w' (fun FF=>BnAt w' B.n0 FF (bz A x) (bT st (yI A h x G)) (rC A h x G)):=by
 have ok:=M.cells.ok;obtain⟨T1,T2,mx,t1,t2,t3,t4,t5⟩:=Ll X ok hx hr hin hh;have nd:=(X.rh.row h).nodup;obtain⟨l1,l2,eR,n1,n2,eL⟩:=Qa nd mx;have hrl:(G.R h).length<=65536:=Nat.le_trans (sU A.cs.length _ nd (fun z hz=>⟨((X.rh.row h).1 z hz).1,((X.rh.row h).1 z hz).2.1⟩)) ok.c1;obtain⟨w0,hw0⟩:∃w0,w0=w.alloc (.cells #[.int .i64 (x:Int)] 3):=⟨_,rfl⟩;have hs0:w.heap.size<w0.heap.size:=by rw[hw0];simp
 have u0:aa [] w w0:=by rw[hw0];exact(aa.refl _ _).alloc _
 have hb0:w0.cell? ⟨w.heap.size,0,none⟩=some (.int .i64 (x:Int)):=by rw[hw0];simp
 have hlt:=M.lt;have hbx:∀g,(vs.getD h undef).ownBlock=some g->g≠w.heap.size:=fun g hg e=>by have:=M.yo hq hg;omega
 have kd:=fun W (hW:aa [] w0 W)=>QS W w.heap.size 0 (vs.getD h undef) l1 l2 x (by rw[←eR];exact(M.each h hq).upd (u0.trans hW) σ) n1 n2 (hW.was hb0) (fun e=>hbx _ e rfl) (by rw[←eR];omega);obtain⟨a,cap,hv,_⟩:=M.shape hq;have h2:=M.h2;have d:=M.WM hq;rw[hv]at d;have df:=M.rowf h;have n0:B.n0∉(vs.getD h undef).ownBlock.toList:=fun hm=>(M.d4 h _ hq (by simpa using hm)).1 rfl;have ng:gr∉(vs.getD h undef).ownBlock.toList:=fun hm=>(M.d4 h _ hq (by simpa using hm)).2.2.2.1 rfl;have nb:w.heap.size∉(vs.getD h undef).ownBlock.toList:=fun hm=>hbx _ (by simpa using hm) rfl
 have r2:∀W,aa (vs.getD h undef).ownBlock.toList w0 W->W.cell? ⟨B.n0,2,none⟩=some (.slice (some ⟨gr,0,none⟩) vs.length cr):=fun W hW=>hW.kept (u0.was h2) n0;have r3:∀W,aa (vs.getD h undef).ownBlock.toList w0 W->W.cell? ⟨gr,h,none⟩=some (.slice a (G.R h).length cap)/\W.frozen? ⟨gr,h,none⟩=false:=fun W hW=>⟨hW.kept (u0.was d) ng,hW.aS (u0.was d) ng (u0.aS d σ df)⟩
 have r4:∀W,aa (vs.getD h undef).ownBlock.toList w0 W->W.cell? ⟨w.heap.size,0,none⟩=some (.int .i64 (x:Int)):=fun W hW=>hW.kept hb0 nb;have BP:(0:Int)<=(h:Int):=ω;have Hy:(h:Int)<(vs.length:Int):=ω;have hgl:=M.FV;have hn0l:=hlt B.n0 (by simp[BB.blk]);have HM:=χ M;have HX:=χ (ψ T1 (ψ t1 (ψ t2 (ψ t3 (ψ t4 (ψ t5 (ψ eL (ψ eF X))))))));have hvl2:=M.ZY;rw[hv]at kd r2 r3 r4;clear M X T1 T2 mx t1 t2 t3 t4 t5 nd eL hbx ok h2 d df n0 ng nb n1 n2 eF hlt;have HV:=χ hv;clear eR hrl;generalize (G.R h).length=rl at *
 go_enter Tryz.func185,Tryz.ntmps185
 go_wp2;rw[←hw0];clear hw0 hb0
 go_cut [20] (fun s20 wx=>∃v1,iU wx B F gr cr lo A st S (vs.set h v1) (dA G.R h (l1++l2))/\wx.cell? ⟨w.heap.size,0,none⟩=some (.int .i64 (x:Int))/\aa (gr::(Value.slice a rl cap).ownBlock.toList) w wx/\v1.ownBlock=(Value.slice a rl cap).ownBlock)
 case first=>
  have p2:=r2 _ (aa.refl _ _);obtain⟨p3,p4⟩:=r3 _ (aa.refl _ _)
  go_region_law
   (first
    | (go_simp;go_at_call 191;(with_reducible refine(kd _ β).mono ?_);rintro e w1 ⟨v1,rfl,tN,hb1,hu1a,a1,n1,c1,rfl⟩;(have hu1:aa (Value.slice a rl cap).ownBlock.toList w0 w1:=aa.trans β hu1a);(have q2:=r2 _ hu1);obtain⟨q3,q4⟩:=r3 _ hu1;(have q5:=r4 _ hu1)))
  all_goals
   go_wp2
   go_meet
   have hu2:aa (Value.slice a rl cap).ownBlock.toList w w1:=(u0.mono σ).trans hu1;exact⟨_,HM.out.abD h hq (by rw[hv];exact hu2) _ _ tN (by rw[hv];exact hb1),γ,(hu2.mono (by simp +contextual)).setCell (Or.inl σ) _,hb1⟩
 case rest=>
  obtain⟨v1,hM2,hb2,hu2,ho2⟩:=hcut;obtain⟨T1,t1,t2,t3,t4,t5,eL,eF,X⟩:=HX.out;have hvs2:(vs.set h v1).length=vs.length:=List.length_set;have hfs:oK A.cs.length S.f:=by rw[eF];exact X.fh.f
  have hSk:S.k x=G.F.k x:=by rw[←eF];rfl
  have ksp:=fun W (hW:aa [] wc W)=>PN B.bt B.ba lo A.cs.length S x W (hM2.jm.au hW) hx (by unfold oQ;rw[decide_eq_true ω];have e:S.u x=-1:=(by rw[←hr,←eF];rfl);simp[e]) (fun k hk=>by have:=hfs.wy x hx k hk;omega);have h1:=hM2.h1;have hl2:=hM2.lt;have hbn:w.heap.size∉B.c::B.ba::gr::S.blk A.cs.length:=fun hm=>by
   have hl:=HM.out.lt;simp only[ρ]at hm;rcases hm with e|e|e|e
   ·have:=HM.out.cells.lt B.c HM.out.cells.mem;omega
   ·have:=hl B.ba (by simp[BB.blk]);omega
   ·omega
   ·have:=(HM.out.jm.nX e).2;omega
  have hn0:B.n0∉B.c::B.ba::gr::S.blk A.cs.length:=fun hm=>by
   have hcn:=HM.out.cn;simp only[ρ]at hm;rcases hm with e|e|e|e
   ·exact hcn.1 e
   ·exact HM.out.d2.2.1 e
   ·exact HM.out.d2.2.2.1 e
   ·exact(HM.out.d3 _ e).1 rfl
  have r1:∀W,aa (B.c::B.ba::gr::S.blk A.cs.length) wc W->W.cell? ⟨B.n0,1,none⟩=some (.pointer (some ⟨B.bt,0,none⟩)):=fun W hW=>hW.kept h1 hn0;have r0:∀W,aa (B.c::B.ba::gr::S.blk A.cs.length) wc W->W.cell? ⟨w.heap.size,0,none⟩=some (.int .i64 (x:Int)):=fun W hW=>hW.kept hb2 hbn
  have ka:=fun(W:World) (vl:Value) (hM:iU W B F gr cr lo A st (il S x) (vs.set h v1) (dA G.R h (l1++l2))) (hvl:gI W (B.c::B.ba::(il S x).blk A.cs.length) vl (G.F.k x))=>Ib hM (by rw[zq,eF];exact X.fh.f.Ty hx hr) h (by rw[hvs2];exact hq) hvl (by rw[zq,eF,show dA G.R h (l1++l2) h=l1++l2 by simp[dA],←eL];exact t1) (by rw[zq,eF];exact t2) (fun z hz=>by rw[show dA G.R h (l1++l2) h=l1++l2 by simp[dA],←eL]at hz;exact t3 z hz) (fun z hz=>by rw[show dA G.R h (l1++l2) h=l1++l2 by simp[dA],←eL]at hz;exact t5 z (by rcases hz with hz|hz;exact Or.inl (List.mem_filter.1 hz).1;exact Or.inr hz))
  have nR:=χ hM2;have HB:=χ (show ∀W:World,aa [B.ba] wc W->aY W B.bt B.ba lo A.cs.length (il S x)->iU W B F gr cr lo A st (il S x) (vs.set h v1) (dA G.R h (l1++l2))from fun W hu hF=>nR.out.jW (hu.mono σ) (nR.out.cells.upd hu (fun y hy hm=>by simp at hy;subst hy;exact nR.out.d1.2.2.1 hm)) hF (fun g hg=>Or.inl (qI S x _ g hg)))
  have HSUB:=χ (show ∀y,y∈B.c::B.ba::gr::(il S x).blk A.cs.length->y∈B.c::B.ba::gr::S.blk A.cs.length from fun y hy=>by
   simp only[ρ]at hy⊢;rcases hy with e|e|e|e
   ·exact Or.inl e
   ·exact Or.inr (Or.inl e)
   ·exact Or.inr (Or.inr (Or.inl e))
   ·exact Or.inr (Or.inr (Or.inr (qI S x _ y e))))
  have XX:=χ (show ∀y,y∈B.c::B.ba::(il S x).blk A.cs.length->y<wc.heap.size from fun y hy=>by
   simp only[ρ]at hy;rcases hy with e|e|e
   ·subst e;exact hM2.cells.lt _ hM2.cells.mem
   ·subst e;exact hM2.jm.row.lt
   ·exact(hM2.jm.nX (qI S x _ y e)).2)
  clear hM2 T1 t1 t2 t3 t4 t5 eL hfs X h1 hb2 eF;rw[hSk]at ksp;go_wp2
  go_region_held3 (aa (B.c::B.ba::gr::S.blk A.cs.length) wc) (exact ν)
   (first
    | ((go_at_call 193;(with_reducible refine(ksp _ β).mono ?_));rintro e w3 ⟨v3,rfl,hL3,XT,hu3⟩;(have Xe:aa [B.ba] wc w3:=aa.trans β hu3);(have hu3b:aa (B.c::B.ba::gr::S.blk A.cs.length) wc w3:=Xe.mono σ);(have jR:=HB.out _ Xe XT);obtain⟨a3,c3,hv3,hl3,hc3⟩:=(show ∃a c,v3=.slice a (G.F.k x).length c/\True/\True from(by obtain⟨a,c,e,_⟩:=hL3.open;exact⟨a,c,e,trivial,trivial⟩));subst hv3;(have ka3:=fun W (hW:aa [] w3 W)=>ka W _ (jR.au hW) (gI.upd (gI.Zi (F:=B.c::B.ba::(il S x).blk A.cs.length) hL3 (fun g hg=>Nat.lt_of_lt_of_le (XX.out g hg) (aa.size (S:=[]) (w:=wc) β))) hW σ)))
    | ((go_at_call 186;(with_reducible refine(ka3 _ β).mono ?_));rintro e w4 ⟨S4,vo,rfl,hS4,rW,gX,hb4,hx4⟩;(have YM:aa (B.c::B.ba::gr::S.blk A.cs.length) wc w4:=aa.trans ν (gX.mono HSUB.out))))
  have h04:=rW.h0;have hnF:=HM.out.d1.1;have uW:w.heap.size∉F:=fun hm=>by have:=HM.out.cells.lt _ hm;omega
  have r5:∀W,aa F w4 W->W.cell? ⟨B.n0,0,none⟩=some (.pointer (some ⟨B.c,0,none⟩)):=fun W hW=>hW.kept h04 hnF;have r6:∀W,aa F w4 W->W.cell? ⟨w.heap.size,0,none⟩=some (.int .i64 (x:Int)):=fun W hW=>hW.kept (r0 _ YM) uW;have XR:=fun W (hW:aa [] w4 W)=>iq (rW.cells.au hW) x ((ah _ _).2 ⟨hx,hin⟩);have PX:=χ rW;clear rW h04 r0 r1 ka ksp ka3 jR hL3 XT;go_wp2
  go_region_held3 (aa F w4) (exact ν)
   (first
    | ((go_at_call 151;(with_reducible refine(XR _ β).mono ?_));rintro e w5 ⟨rfl,Uu,bW⟩;(have Jy:aa F w4 w5:=aa.trans ν bW)))
  go_wp2;go_ret;obtain⟨T1,t1,t2,t3,t4,t5,eL,eF,X⟩:=HX.out;have dl:=fG A (x:Int);have dh:=iW A (x:Int);have wL:=PX.out.cB Jy Uu (fun y hy=>Or.inl hy) dl (by rw[dh]);have eR1:dA G.R h (l1++l2) h=l1++l2:=by simp[dA]
  have eT:(iG G h x).R=dA G.R h (l1++l2):=by unfold iG;rw[eL]
  have eTF:(iG G h x).F=(il S x).f:=by rw[zq,eF];rfl
  have e1:(rC A h x G).R=dA (dA G.R h (l1++l2)) h (lu (bX A) A.cs.length (il S x).f (dA G.R h (l1++l2) h) (G.F.k x)).O:=by unfold rC yQ;rw[eT,eTF]
  have e2:(rC A h x G).F=S4.f:=by rw[hS4];unfold rC yQ;rw[eT,eTF]
  have e3:yI A h x G=(lu (bX A) A.cs.length (il S x).f (dA G.R h (l1++l2) h) (G.F.k x)).q:=by unfold yI;rw[eT,eTF]
  have uw:aa (B.blk F gr A.cs.length S vs) w w5:=by
   have m1:∀y,y∈gr::(Value.slice a rl cap).ownBlock.toList->y∈B.blk F gr A.cs.length S vs:=fun y hy=>by
    simp only[BB.blk,ρ,τ]at hy⊢;rcases hy with e|e
    ·exact Or.inr (Or.inr (Or.inr (Or.inl e)))
    ·exact Or.inr (Or.inr (Or.inr (Or.inr (Or.inr (Or.inr (jK.2 ⟨h,hq,by rw[HV.out];simpa using e⟩))))))
   have m2:∀y,y∈B.c::B.ba::gr::S.blk A.cs.length->y∈B.blk F gr A.cs.length S vs:=fun y hy=>by
    simp only[BB.blk,ρ,τ]at hy⊢;rcases hy with e|e|e|e
    ·exact Or.inr (Or.inr (Or.inr (Or.inr (Or.inl (by rw[e];exact HM.out.cells.mem)))))
    ·exact Or.inr (Or.inr (Or.inl e))
    ·exact Or.inr (Or.inr (Or.inr (Or.inl e)))
    ·exact Or.inr (Or.inr (Or.inr (Or.inr (Or.inr (Or.inl e)))))
   have m3:∀y,y∈F->y∈B.blk F gr A.cs.length S vs:=fun y hy=>by simp[BB.blk,hy]
   exact((hu2.mono m1).trans (YM.mono m2)).trans (Jy.mono m3)
  refine⟨rfl,B.blk F gr (bz A x).cs.length S4 ((vs.set h v1).set h vo),⟨B,F,gr,cr,lo,S4,(vs.set h v1).set h vo,rfl,rfl,by rw[e1,e3];exact wL,e2.symm⟩,uw,fun y hy=>?_⟩;have hsz:=hu2.size;rw[dl]at hy;simp only[BB.blk,ρ,τ]at hy⊢;rcases hy with e|e|e|e|e|e|e
  ·exact Or.inl (Or.inl e)
  ·exact Or.inl (Or.inr (Or.inl e))
  ·exact Or.inl (Or.inr (Or.inr (Or.inl e)))
  ·exact Or.inl (Or.inr (Or.inr (Or.inr (Or.inl e))))
  ·exact Or.inl (Or.inr (Or.inr (Or.inr (Or.inr (Or.inl e)))))
  ·rcases hb4 y e with h'|h'
   ·exact Or.inl (Or.inr (Or.inr (Or.inr (Or.inr (Or.inr (Or.inl (qI S x _ y h')))))))
   ·right;have:=hu3b.size;omega
  ·obtain⟨k,hk,hk2⟩:=jK.1 e;rw[List.length_set,List.length_set]at hk;rw[uC,uC]at hk2
   by_cases ek:k=h
   ·rw[if_pos ⟨ek,by rw[List.length_set];exact hq⟩]at hk2;right;have:=hx4 y hk2;have:=hu3b.size;omega
   ·rw[if_neg (fun h=>ek h.1),if_neg (fun h=>ek h.1)]at hk2;exact Or.inl (Or.inr (Or.inr (Or.inr (Or.inr (Or.inr (Or.inr (jK.2 ⟨k,hk,hk2⟩)))))))
end
section
variable {w:World}{B:BB}{F:List Nat}{gr cr lo:Nat}{A:NS}{st:Nat}{S:CS}{vs:List Value}{G:BG}{R:Nat->List Int}
theorem iU.setSt{w':World}{st':Nat}(h:iU w B F gr cr lo A st S vs R)(hu:aa [B.c] w w')(hC:aF w' B.c F A st'):iU w' B F gr cr lo A st' S vs R:=
 h.cB (hu.mono (fun x hx=>by simp at hx;subst hx;exact h.cells.mem)) hC (fun x hx=>Or.inl hx) rfl rfl
def EI(A:NS)(G:BG)(h:Int):Nat:=if bJ A h then (G.R h.toNat).length-1 else 0
theorem Gf(M:iU w B F gr cr lo A st S vs G.R)(I:Dk A G)(h:Int) :
  Calls Tryz.prog 181 #[.pointer (some ⟨B.n0,0,none⟩),.int .i64 h] w fun e w'=>e=.returned (.tuple #[.int .i64 (qh (dL A h)),.bool (dL A h).isSome])/\iU w' B F gr cr lo A (bT st (EI A G h)) S vs G.R/\aa [B.c] w w':=by
 have hst:=M.cells.pF;cases hh:bJ A h with
 | false=>
  have e:dL A h=none:=by
   by_cases h1:0<h
   ·exact(jQ h1).2 (NL M.cells.ok hh)
   ·exact qc h1
  have e2:EI A G h=0:=by unfold EI;rw[hh];rfl
  rw[e,e2,gK hst];have kr:=WJ M h hh;have HM:=χ M;clear M I hh e e2
  go_enter Tryz.func181,Tryz.ntmps181
  go_wp2_with ((go_at_call 187;(with_reducible refine(kr).mono ?_);rintro e w9 ⟨rfl,aJ⟩;rw[aJ];clear aJ w9))
  go_ret2;exact⟨rfl,HM.out,aa.refl _ _⟩
 | true=>
  obtain⟨q,rfl,hq1,hq⟩:=M.hq hh;have e2:EI A G (q:Int)=(G.R q).length-1:=by unfold EI;rw[hh];simp
  obtain⟨a,cap,hv,hl1,hl2⟩:=M.shape hq;have kr:=TA M q hh hv;have hsl:gI w [B.c] (vs.getD q undef) (G.R q):=(M.each q hq).sl (fun g hg hm=>by simp at hm;subst hm;exact(M.d4 q _ hq hg).2.2.2.2.1 M.cells.mem);rw[hv]at hsl;rw[e2];cases hR:G.R q with
  | nil=>
   rw[MN I hq1 hR];rw[hR]at kr hsl;simp only[List.length_nil]at kr⊢;rw[gK hst];have HM:=χ M;clear M I hh hR e2 hv hsl
   go_enter Tryz.func181,Tryz.ntmps181
   go_wp2_with ((go_at_call 187;(with_reducible refine(kr).mono ?_);rintro e w9 ⟨rfl,aJ⟩;rw[aJ];clear aJ w9))
   go_ret2;exact⟨rfl,HM.out,aa.refl _ _⟩
  | cons x t=>
   obtain⟨m,hb,hm,_⟩:=TQ I hq1 hR;rw[hm];rw[hR]at kr hsl hl1;simp only[List.length_cons]at kr hsl hl1⊢;have hin:∀z,z∈x::t->∃y:Nat,z=y/\bS A z=true:=fun z hz=>by
    obtain⟨y,e,_,i,_⟩:=Q9 I (h:=q) (z:=z) (by rw[hR];exact hz);exact⟨y,e,i⟩
   obtain⟨g,off,rfl,hgl,Fs,hc0⟩:=hsl.head;have Fu:=(show gI w [B.c] (.slice (some ⟨g,off,none⟩) (t.length+1) cap) (x::t)from hsl).tail;have hsr:=fun W=>xq W (some ⟨g,off,none⟩) (t.length+1) cap ω ω;obtain⟨a3,Ah⟩:=qO (some ⟨g,off,none⟩) (t.length+1) cap;rw[Ah]at hsr Fu;simp only[Nat.add_sub_cancel]at hsr Fu⊢;have h0:=M.h0;have hn0:B.n0∉[B.c]:=by simp;exact M.cn.1
   have HM:=χ M;have HT:=χ Fu;have HI:=χ (ψ hin hb);have hC:=M.cells;have hz:bT st 0=st:=gK hst;clear M I hh hR e2 hv hsl Fu hin hb hm Ah;generalize htl:t.length=tl at *;have PY:=χ htl;have hne0:((tl:Int)+1 == 0)=false:=beq_eq_false_iff_ne.2 ω;clear htl
   go_enter Tryz.func181,Tryz.ntmps181
   go_wp2_with ((go_at_call 187;(with_reducible refine(kr).mono ?_);rintro e w9 ⟨rfl,aJ⟩;rw[aJ];clear aJ w9))
   go_loopw [7,22] (fun s7 s22 wr=>∃ (j:Nat) (b:Int),j<=tl/\s22=.int .i64 (j:Int)/\s7=.int .i64 b/\mW (bX A) b (t.drop j)=mW (bX A) x t/\(∃y:Nat,b=y/\bS A b=true)/\aF wr B.c F A (bT st j)/\aa [B.c] w wr) (fun _ s22 _=>tl-(intOf s22).toNat)
   case atStart=>exact⟨0,x,ω,rfl,rfl,σ,HI.out.1 x σ,by rw[hz];exact hC,aa.refl _ _⟩
   case round=>
    obtain⟨j,b,hj,rfl,rfl,hbb,hib,hCj,hu⟩:=hrel;rename World=>wr
    by_cases hjt:j<tl
    ·obtain⟨y,pK⟩:∃y,t[j]?=some y:=⟨t[j]'(by rw[PY.out];exact hjt),σ⟩;have hd:t.drop j=y::t.drop (j+1):=by
      obtain⟨hl,e⟩:=List.getElem?_eq_some_iff.1 pK;rw[List.drop_eq_getElem_cons hl,e]
     obtain⟨a4,c4,e4,_,_,h4⟩:=HT.out;have ea:a3=a4:=by injection e4
     subst ea;obtain⟨g4,o4,rfl,_,hg4,hc4⟩:=h4 j y pK;have hc5:=hu.kept hc4 hg4;obtain⟨yn,rfl,hiy⟩:=HI.out.1 y (List.mem_cons_of_mem _ (List.mem_of_getElem? pK));obtain⟨bn,rfl,hbn⟩:=hib;have ka:=fA hCj yn bn hiy hbn;have h05:=hu.kept h0 hn0;have XF:(j:Int)<(tl:Int):=ω;have hw1:IntKind.i64.wrap ((j:Int)+1)=(j:Int)+1:=IntWalk.i64_in _ ω;have eah:bX A (yn:Int) (bn:Int)=decide (bZ A yn bn):=by rw[lY,hiy,hbn];simp
     have hnx:∀b':Int,b'=(if bX A (yn:Int) (bn:Int)then (yn:Int)else (bn:Int))->mW (bX A) b' (t.drop (j+1))=mW (bX A) x t:=fun b' e=>by rw[←hbb,hd,e];rfl
     have HN:=χ (ψ hnx (ψ hiy hbn));have hse:bT (bT st j) 1=bT st (j+1):=iZ st j 1;rw[←eah]at ka;clear hCj hbb hd h4 pK hc4 hiy hbn eah hnx e4;cases hab:bX A (yn:Int) (bn:Int)with
     | true=>
      rw[hab]at ka;have HAB:=χ hab;clear hab
      go_wp2_with ((go_at_call 174;(with_reducible refine(ka).mono ?_));rintro e w2 ⟨rfl,hC2,hu2⟩)
      go_roundw
      case rel=>exact⟨j+1,yn,ω,by go_num,rfl,HN.out.1 _ (by rw[HAB.out];rfl),⟨yn,rfl,HN.out.2.1⟩,by rw[←hse];exact hC2,hu.trans hu2⟩
      case measure=>simp[intOf];omega
     | false=>
      rw[hab]at ka;have HAB:=χ hab;clear hab
      go_wp2_with ((go_at_call 174;(with_reducible refine(ka).mono ?_));rintro e w2 ⟨rfl,hC2,hu2⟩)
      go_roundw
      case rel=>exact⟨j+1,bn,ω,by go_num,rfl,HN.out.1 _ (by rw[HAB.out];rfl),⟨bn,rfl,HN.out.2.2⟩,by rw[←hse];exact hC2,hu.trans hu2⟩
      case measure=>simp[intOf];omega
    ·obtain rfl:j=tl:=ω;have hbf:b=(m:Int):=by
      rw[List.drop_of_length_le (by rw[PY.out];omega)]at hbb;have e:mW (bX A) b []=b:=rfl;rw[e,HI.out.2]at hbb;exact hbb
     have HB:=χ hbf;have HC:=χ hCj;clear hbb hib hbf hCj;go_wp2;go_ret2;exact⟨by rw[HB.out];rfl,HM.out.setSt hu HC.out,hu⟩
end
end Go.Proofs.YtklibcncmbofpaaGreat
