/-
  Lemmas for PathBest: BnS, OwnS, Bn, Bn2, Del. Conditions: those of each lemma.
-/
import Derived.Lib.SliceRun
import Derived.IntWalk
import Derived.Test.YtklibcncmbofpaaGreatB16
set_option linter.all false
set_option maxHeartbeats 8000000
set_option maxRecDepth 10000
namespace Go.Proofs.YtklibcncmbofpaaGreat
def Tc (A':NS) (h x:Nat) (G:BG):BG:=yB (cB A') A'.cs.length h [(x:Int)] G
def VM (A':NS) (h x:Nat) (G:BG):Nat:=(lG (cB A') A'.cs.length G.F (G.R h) [(x:Int)]).q
theorem Tj (n:Nat) (F:CF):lV n F []:=⟨fun x hx=>(by cases hx),List.Pairwise.nil⟩
theorem YK (n:Nat):Db (NS.new n) BG.none:=by
 have hc:=fun y=>NS.yc n y;have hn:(NS.new n).cs.length=n:=by simp [NS.new]
 refine ⟨⟨by rw [hn];exact QV n,fun y p hy hu=>?_,fun y p hy hu=>?_,fun y hy hh=>⟨rfl,rfl⟩⟩,⟨fun h=>Tj _ _,fun h y=>⟨fun hm=>(by cases hm),fun hm=>?_⟩⟩,fun h hh=>?_⟩
 ·have:(-1:Int)=p:=hu;omega
 ·have:(-1:Int)=p:=hu;omega
 ·have h2:=hm.2.2.2;rw [hc] at h2;simp [Cl.z] at h2;omega
 ·have:¬0<dZ (NS.new n) (h:Int):=fun hp=>by
   obtain ⟨y,_,h2,h3⟩:=fM.1 hp;rw [hc] at h2;simp [Cl.z] at h2;omega
  show (0:Nat)=_
  omega
theorem ZC (A:NS) (y:Nat):(aQ A).c y=A.c y:=by unfold aQ;split<;>rfl
theorem Mf (A:NS):(aQ A).cs=A.cs:=by unfold aQ;split<;>rfl
section
variable {A:NS} {G:BG}
theorem Va (B:Db A G):Db (aQ A) G:=by
 have hc:=ZC A;have hs:(aQ A).cs.length=A.cs.length:=by rw [Mf]
 refine ⟨⟨by rw [hs];exact B.fh.f,fun y p hy hu=>by rw [hc,hc];exact B.fh.home y p (by rw [←hs];exact hy) hu,fun y p hy hu=>(fP (hc p) (hc y)).2 (B.fh.ord y p (by rw [←hs];exact hy) hu),fun y hy hh=>B.fh.alone y (by rw [←hs];exact hy) (by rw [←hc];exact hh)⟩,
  ⟨fun h=>by rw [hs];exact B.rh.row h,fun h y=>by rw [hs,hc];exact B.rh.mem h y⟩,fun h hh=>by rw [hs,Og];exact B.w h hh⟩
theorem XX {h x:Nat} (k s:Int) (B:Db A G) (ok:A.Ok) (hB:oF A h x=true) :
  Db (aN A h x k s) (Tc (aN A h x k s) h x G)/\VM (aN A h x k s) h x G+((Tc (aN A h x k s) h x G).R h).length=(G.R h).length+1/\
   lV A.cs.length G.F [(x:Int)]/\(∀z,z∈G.R h->z∉[(x:Int)])/\(∀z,z∈G.R h\/z∈[(x:Int)]->bX (aN A h x k s) z=true)/\(aN A h x k s).cs.length=A.cs.length:=by
 obtain ⟨b1,b2,b3⟩:=(fE _ _ _).1 hB;have b4:=(aT _ _).1 b1;have hx:x<A.cs.length:=by have:=(ic _ _).1 b2;omega
 have EU:1<=h:=ω;have h0:¬0<(A.c x).i:=fun hp=>by rw [(ai _ _).2 ⟨hx,hp⟩] at b3;cases b3
 have eA:aN A h x k s=jh A x ⟨h,k,s⟩:=by unfold aN;rw [if_pos hB,π]
 have hcs:(aN A h x k s).cs.length=A.cs.length:=by rw [eA];exact fO _ _ _
 have hc:∀y,(aN A h x k s).c y=if y=x then ⟨h,k,s⟩ else A.c y:=fun y=>by
  rw [eA,kV]
  by_cases e:y=x
  ·rw [if_pos ⟨e,hx⟩,if_pos e]
  ·rw [if_neg (fun h=>e h.1),if_neg e]
 have al:=B.fh.alone x hx h0
 have hne:∀y p:Nat,y<A.cs.length->G.F.u y=p->y≠x/\p≠x:=fun y p hy hu=>⟨fun e=>by subst e;rw [al.1] at hu;omega,fun e=>by
  subst e;have:=(B.fh.f.above hy hu).2
  rw [al.2] at this;cases this⟩
 have hF:FH A.cs.length G.F (fun y=>((aN A h x k s).c y).i) (cZ (aN A h x k s)):=by
  refine ⟨B.fh.f,fun y p hy hu=>?_,fun y p hy hu=>?_,fun y hy hh=>?_⟩
  ·obtain ⟨e1,e2⟩:=hne y p hy hu;rw [hc,hc,if_neg e1,if_neg e2];exact B.fh.home y p hy hu
  ·obtain ⟨e1,e2⟩:=hne y p hy hu;exact (fP (by rw [hc,if_neg e2]) (by rw [hc,if_neg e1])).2 (B.fh.ord y p hy hu)
  ·by_cases e:y=x
   ·rw [hc,if_pos e] at hh;simp only at hh;omega
   ·rw [hc,if_neg e] at hh;exact B.fh.alone y hy hh
 have hin:∀y:Nat,y<A.cs.length->((aN A h x k s).c y).i=(h:Int)->bX (aN A h x k s) (y:Int)=true:=fun y hy e=>(ai _ _).2 ⟨ω,ω⟩;have hl:lV A.cs.length G.F [(x:Int)]:=⟨fun z hz=>by simp at hz;subst hz;exact ⟨ω,ω,by simpa using al.1⟩,List.pairwise_singleton _ _⟩;have hd:∀z,z∈G.R h->z∉[(x:Int)]:=fun z hz hm=>by
  simp at hm;subst hm;have:=((B.rh.mem h x).1 hz).2.2.2;omega
 have hm:∀y:Nat,y<A.cs.length/\G.F.u y=-1/\((aN A h x k s).c y).i=(h:Int)↔(y:Int)∈G.R h\/(y:Int)∈[(x:Int)]:=fun y=>by
  rw [B.rh.mem h y];simp only [List.mem_singleton]
  by_cases e:y=x
  ·subst e;rw [hc,if_pos rfl];exact ⟨fun _=>Or.inr rfl,fun _=>⟨hx,al.1,rfl⟩⟩
  ·rw [hc,if_neg e];constructor
   ·rintro ⟨a1,a2,a3⟩;exact Or.inl ⟨EU,a1,a2,a3⟩
   ·rintro (⟨_,a1,a2,a3⟩|a4)
    ·exact ⟨a1,a2,a3⟩
    ·omega
 obtain ⟨r1,r2,r3,r4⟩:=Ch (G:=G) (lt:=cB (aN A h x k s)) (h:=h) hF ok.c1 (oM _) (fun y p hy hp h1 h2 hne ha=>zN (hin y hy h1) (hin p hp h2) hne ha) EU B.rh.row (fun q y hq=>by
  rw [B.rh.mem q y]
  by_cases e:y=x
  ·subst e;rw [hc,if_pos rfl];constructor
   ·rintro ⟨a1,_,_,a3⟩;omega
   ·rintro ⟨a1,_,_,a3⟩;simp only at a3;omega
  ·rw [hc,if_neg e]) hm hl hd
 unfold Tc VM;rw [hcs];refine ⟨⟨by rw [hcs];exact r1,by rw [hcs];exact r2,fun q hq=>?_⟩,by simpa using r4,hl,hd,fun z hz=>?_,rfl⟩
 ·rw [hcs,r3 q];have hlen:=nL A x ⟨h,k,s⟩ (q:Int) hx;rw [←eA] at hlen;rw [if_neg ω] at hlen;have wx:wt A.cs.length G.F [(x:Int)]=1:=by
   unfold wt;simp only [List.map_cons,List.map_nil,List.sum_cons,List.sum_nil];rw [fQ _ _ hx,al.2];rfl
  have wq:=B.w q hq
  by_cases e:q=h
  ·subst e;rw [if_pos ⟨rfl,ω⟩] at hlen;rw [if_pos rfl,wx];omega
  ·rw [if_neg (fun h=>e (by have:=h.1;simp only at this;omega))] at hlen;rw [if_neg e];omega
 ·have key:∃y:Nat,z=y/\y<A.cs.length/\((aN A h x k s).c y).i=(h:Int):=by
   rcases hz with hz|hz
   ·have hr:=(B.rh.row h).1 z hz;obtain ⟨y,rfl⟩:=Int.eq_ofNat_of_zero_le hr.1;have:=(hm y).2 (Or.inl hz);exact ⟨y,rfl,this.1,this.2.2⟩
   ·simp at hz;subst hz;have:=(hm x).2 (Or.inr σ);exact ⟨x,rfl,this.1,this.2.2⟩
  obtain ⟨y,rfl,h1,h2⟩:=key;exact hin y h1 h2
theorem TK (B:Db A G):∀ (m y:Nat),A.cs.length<=m+(G.F.k y).length->y<A.cs.length->0<(A.c y).i->∃T,T<A.cs.length/\G.F.u T=-1/\(A.c T).i=(A.c y).i/\(T=y\/cZ A T y)
 | m,y,hm,hy,hh=>by
  rcases B.fh.f.up y hy with h1|⟨p,hp,h1,h2⟩
  ·exact ⟨y,hy,h1,rfl,Or.inl rfl⟩
  ·have hd:=B.fh.f.OD hy h1;have hl:=B.fh.f.len hp;have ho:(A.c y).i=(A.c p).i/\0<(A.c y).i:=B.fh.home y p hy h1
   match m,hm with
   | 0,hm=>omega
   | m+1,hm=>
    obtain ⟨T,t1,t2,t3,t4⟩:=TK B m p ω hp ω;refine ⟨T,t1,t2,by rw [t3,ho.1],Or.inr ?_⟩;have hl:=B.fh.ord y p hy h1;rcases t4 with e|e
    ·rw [e];exact hl
    ·exact cz e hl
def mI (lt:Int->Int->Bool):Int->List Int->Int
 | b,[]=>b
 | b,x::t=>mI lt (if lt x b then x else b) t
theorem zw (lt:Int->Int->Bool):∀ (l:List Int) (b:Int),mI lt b l∈b::l
 | [],b=>by simp [mI]
 | x::t,b=>by
  have key:∀c,mI lt c t∈c::t:=fun c=>zw lt t c;unfold mI;cases e:lt x b with
  | true=>
   rw [if_pos rfl];exact List.mem_cons_of_mem _ (key x)
  | false=>
   rw [if_neg σ];rcases ρ.1 (key b) with h|h
   ·rw [h];simp
   ·exact List.mem_cons_of_mem _ (List.mem_cons_of_mem _ h)
theorem yh {lt:Int->Int->Bool} {P:Int->Prop} (tr:∀a b c,P a->P b->P c->lt a b=true->lt b c=true->lt a c=true) (tot:∀a b,P a->P b->a≠b->lt a b=false->lt b a=true) :
  ∀ (l:List Int) (b:Int),P b->(∀x,x∈l->P x)->∀x,x∈b::l->x=mI lt b l\/lt (mI lt b l) x=true
 | [],b,_,_,x,hx=>by simp at hx;subst hx;exact Or.inl rfl
 | y::t,b,hb,hl,x,hx=>by
  have hy:=hl y σ;have ht:=fun z hz=>hl z (List.mem_cons_of_mem _ hz);unfold mI;have hP:P (if lt y b then y else b):=by split;exact hy;exact hb
  have ih:=yh tr tot t (if lt y b then y else b) hP ht;have aaN:P (mI lt (if lt y b then y else b) t):=by
   rcases ρ.1 (zw lt t (if lt y b then y else b)) with e|e
   ·rw [e];exact hP
   ·exact ht _ e
  have via:∀z,P z->lt (if lt y b then y else b) z=true->z=mI lt (if lt y b then y else b) t\/lt (mI lt (if lt y b then y else b) t) z=true:=fun z hz h=>by
   rcases ih _ (List.mem_cons_self) with e|e
   ·rw [←e];exact Or.inr h
   ·exact Or.inr (tr _ _ _ aaN hP hz e h)
  by_cases e:lt y b=true
  ·rw [if_pos e] at ih via ⊢;rcases ρ.1 hx with e1|hx
   ·subst e1;exact via x hb e
   ·exact ih x hx
  ·rw [if_neg e] at ih via ⊢;have e:lt y b=false:=by simpa using e
   rcases ρ.1 hx with e1|hx
   ·subst e1;exact ih x σ
   ·rcases ρ.1 hx with e1|hx
    ·subst e1
     by_cases exb:x=b
     ·subst exb;exact ih x σ
     ·exact via x hy (tot x b hy hb exb e)
    ·exact ih x (List.mem_cons_of_mem _ hx)
theorem TI (B:Db A G) {h:Nat} {z:Int} (hz:z∈G.R h):∃y:Nat,z=y/\y<A.cs.length/\bX A z=true/\(A.c y).i=h/\G.F.u y=-1:=by
 have hr:=(B.rh.row h).1 z hz;obtain ⟨y,rfl⟩:=Int.eq_ofNat_of_zero_le hr.1;have:=(B.rh.mem h y).1 hz;have h4:(A.c y).i=h:=this.2.2.2;exact ⟨y,rfl,this.2.1,(ai _ _).2 ⟨this.2.1,ω⟩,h4,this.2.2.1⟩
theorem Qi (B:Db A G) {h:Nat} (h1:1<=h) {x:Int} {t:List Int} (hR:G.R h=x::t):∃m:Nat,mI (cB A) x t=m/\dW A (h:Int)=some m/\m<A.cs.length/\G.F.u m=-1/\(A.c m).i=h:=by
 have hin:∀z,z∈x::t->∃y:Nat,z=y/\y<A.cs.length/\bX A z=true/\(A.c y).i=h/\G.F.u y=-1:=fun z hz=>TI B (by rw [hR];exact hz);obtain ⟨m,e,m1,m2,m3,m4⟩:=hin _ (zw (cB A) t x);refine ⟨m,e,(iZ ω).2 ⟨m1,m3,fun y hy hh=>?_⟩,m1,m4,m3⟩
 have F:=yh (lt:=cB A) (P:=fun z=>∃y:Nat,z=y/\bX A z=true) (fun a b c ha hb hc h1 h2=>by
  obtain ⟨a,rfl,_⟩:=ha;obtain ⟨b,rfl,_⟩:=hb;obtain ⟨c,rfl,_⟩:=hc;rw [lY] at h1 h2 ⊢;simp only [Bool.and_eq_true,decide_eq_true_eq] at h1 h2 ⊢;exact ⟨⟨h1.1.1,h2.1.2⟩,cz h1.2 h2.2⟩) (fun a b ha hb hne h1=>by
  obtain ⟨a,rfl,ia⟩:=ha;obtain ⟨b,rfl,ib⟩:=hb;have:=zN ia ib (fun e=>hne (by rw [e])) h1;rw [lY,ia,ib]
  simpa using this) t x (by obtain ⟨y,e,_,i,_⟩:=hin x σ;exact ⟨y,e,i⟩) (fun z hz=>by obtain ⟨y,e,_,i,_⟩:=hin z (List.mem_cons_of_mem _ hz);exact ⟨y,e,i⟩)
 obtain ⟨T,t1,t2,t3,t4⟩:=TK B A.cs.length y ω hy ω;have hT:(T:Int)∈x::t:=by rw [←hR];exact (B.rh.mem h T).2 ⟨h1,t1,t2,by rw [t3];exact hh⟩
 have hmT:T=m\/cZ A m T:=by
  rcases F _ hT with e2|e2
  ·rw [e] at e2;exact Or.inl ω
  ·rw [e,lY] at e2;simp only [Bool.and_eq_true,decide_eq_true_eq] at e2;exact Or.inr e2.2
 rcases t4 with e1|e1
 ·subst e1;exact hmT
 ·rcases hmT with e2|e2
  ·subst e2;exact Or.inr e1
  ·exact Or.inr (cz e2 e1)
theorem LJ (B:Db A G) {h:Nat} (h1:1<=h) (hR:G.R h=[]):dW A (h:Int)=none:=by
 have:=B.w h h1;rw [hR] at this;exact (jT ω).2 this.symm
end
end Go.Proofs.YtklibcncmbofpaaGreat
namespace Go.Proofs.YtklibcncmbofpaaGreat
open Go Go.RowKit
theorem Vv {w:World} {base size n g cap:Nat} {e:TypeId} {xs:List Value} (h:w.ownsRow base e size (.slice (some ⟨g,0,none⟩) n cap) n xs) (j:Nat) (u:Value) :
  (w.setCell ⟨g,j,none⟩ u).ownsRow base e size (.slice (some ⟨g,0,none⟩) n cap) n (xs.set j u):=by
 rcases h.2 with ⟨h1,_⟩|⟨g',cap',cur,h1,hb,hg,hn,hc,hs,ht⟩
 ·cases h1
 ·cases h1;refine ⟨by rw [List.length_set];exact h.1,Or.inr ⟨g,cap,cur.setIfInBounds j u,rfl,hb,?_,hn,hc,by simp;exact hs,?_⟩⟩
  ·simp [World.setCell,Array.getElem?_modify,hg]
  ·rw [Array.toList_setIfInBounds]
   by_cases hj:j<n*size
   ·rw [List.take_set,ht]
   ·have hl:=h.1;rw [List.take_set_of_le ω,ht,List.set_eq_of_length_le ω]
theorem DF (p c:Nat):∀W:World,W.cell? ⟨p,0,none⟩=some (.pointer (some ⟨c,0,none⟩))->(method 429 174 (.pointer (some ⟨p,0,none⟩)) "Ahead").run Tryz.prog W=.ok (174,.pointer (some ⟨c,0,none⟩)) W:=(by intro W h;unfold method;have hm:∃m,(Array.find? (fun x=>x.name == "Ahead") Tryz.t174.methods)=some m/\m.path.toList=[⟨212,0,true⟩]/\m.func=some (174,true)/\m.path.isEmpty=false:=⟨(Array.find? (fun x=>x.name == "Ahead") Tryz.t174.methods).get!,by kernel_rfl,by kernel_rfl,by kernel_rfl,by kernel_rfl⟩;obtain ⟨m,h1,h2,h3,h4⟩:=hm;go_simp;simp only [follow,Place.get];go_simp;(try unfold receiverAt);(try simp only [Place.get]);(try go_simp))
def bnO (A:NS) (p c:Nat) (F:List Nat) (st:Nat):uN where
 ty:=174
 p:=p
 rd:=p::c::F
 wr:=[c]
 lt:=cB A
 dom:=fun x=>bX A x=true
 at_:=fun w q=>p<w.heap.size/\p∉c::F/\w.cell? ⟨p,0,none⟩=some (.pointer (some ⟨c,0,none⟩))/\aG w c F A (bZ st q)
 sub:=fun x hx=>by simp at hx;subst hx;simp
 low:=fun {w q} h x hx=>by
  obtain ⟨h1,h2,h3,h4⟩:=h;rcases ρ.1 hx with rfl|hx
  ·exact h1
  ·rcases ρ.1 hx with rfl|hx
   ·exact h4.lt _ h4.mem
   ·exact h4.lt _ hx
 upd:=fun {w w' S q} h hu hS=>by
  obtain ⟨h1,h2,h3,h4⟩:=h;exact ⟨Nat.lt_of_lt_of_le h1 hu.size,h2,hu.kept h3 (fun hm=>hS _ hm σ),h4.upd hu (fun x hx hm=>hS x hx (by simp [hm]))⟩
 asym:=oM A
 ahead:=fun {w q} x y h hx hy hq=>by
  obtain ⟨h1,h2,h3,h4⟩:=h;obtain ⟨a,rfl⟩:=qD hx;obtain ⟨b,rfl⟩:=qD hy;refine iT 174 (fun _ _=>by kernel_rfl) h3 (DF p c) (fun W hW=>?_);refine (fF (h4.aA hW) a b hx hy).mono ?_;rintro e w' ⟨rfl,hC,hu⟩;refine ⟨by rw [lY,hx,hy];simp,⟨Nat.lt_of_lt_of_le h1 (Nat.le_trans hW.size hu.size),h2,hu.kept (hW.was h3) (fun hm=>h2 (by simp at hm;simp [hm])),by rw [←jg];exact hC⟩,hu⟩
structure BB where
 n0:Nat
 c:Nat
 bt:Nat
 ba:Nat
structure jc (w:World) (B:BB) (F:List Nat) (gr cr lo:Nat) (A:NS) (st:Nat) (S:CS) (vs:List Value) (R:Nat->List Int):Prop where
 head:aO w B.n0 212 3 (fun j=>[Value.pointer (some ⟨B.c,0,none⟩),.pointer (some ⟨B.bt,0,none⟩),.slice (some ⟨gr,0,none⟩) vs.length cr].getD j undef)
 cells:aG w B.c F A st
 jw:aX w B.bt B.ba lo A.cs.length S
 rows:w.ownsRow 0 26 1 (.slice (some ⟨gr,0,none⟩) vs.length cr) vs.length vs
 len:vs.length=A.hs.length
 each:∀h,h<vs.length->bq w 0 (vs.getD h undef) (R h)
 d1:B.n0∉F/\B.bt∉F/\B.ba∉F/\gr∉F
 d2:B.n0≠B.bt/\B.n0≠B.ba/\B.n0≠gr/\B.bt≠gr/\B.ba≠gr
 d3:∀g,g∈S.blk A.cs.length->g≠B.n0/\g≠gr/\g∉F
 d4:∀h g,h<vs.length->(vs.getD h undef).ownBlock=some g->g≠B.n0/\g≠B.bt/\g≠B.ba/\g≠gr/\g∉F/\g∉S.blk A.cs.length
 d5:∀h k g,h<vs.length->k<vs.length->h≠k->(vs.getD h undef).ownBlock=some g->(vs.getD k undef).ownBlock≠some g
def ZQ (vs:List Value):List Nat:=vs.filterMap Value.ownBlock
theorem jJ {vs:List Value} {g:Nat}:g∈ZQ vs↔∃h,h<vs.length/\(vs.getD h undef).ownBlock=some g:=by
 unfold ZQ;rw [List.mem_filterMap];constructor
 ·rintro ⟨v,hv,e⟩;obtain ⟨i,hi,rfl⟩:=List.getElem_of_mem hv;exact ⟨i,hi,by simpa [φ,hi] using e⟩
 ·rintro ⟨i,hi,e⟩;exact ⟨vs[i],List.getElem_mem hi,by simpa [φ,hi] using e⟩
def BB.blk (B:BB) (F:List Nat) (gr n:Nat) (S:CS) (vs:List Value):List Nat:=B.n0::B.bt::B.ba::gr::(F++(S.blk n++ZQ vs))
theorem ug (vs:List Value) (h k:Nat) (v:Value):(vs.set h v).getD k undef=if k=h/\h<vs.length then v else vs.getD k undef:=by
 simp only [φ,List.getElem?_set]
 by_cases e:h=k
 ·subst e
  by_cases hl:h<vs.length
  ·simp [hl]
  ·simp [hl]
 ·rw [if_neg e,if_neg (fun h'=>e h'.1.symm)]
section
variable {w:World} {B:BB} {F:List Nat} {gr cr lo:Nat} {A:NS} {st:Nat} {S:CS} {vs:List Value} {R:Nat->List Int}
theorem jc.E8 (h:jc w B F gr cr lo A st S vs R):gr<w.heap.size:=(h.rows.lt gr rfl).2
theorem jc.xI (h:jc w B F gr cr lo A st S vs R) {q g:Nat} (hq:q<vs.length) (e:(vs.getD q undef).ownBlock=some g):g<w.heap.size:=((h.each q hq).lt g e).2
theorem jc.lt (h:jc w B F gr cr lo A st S vs R):∀x,x∈B.blk F gr A.cs.length S vs->x<w.heap.size:=by
 intro x hx;have h1:=h.head.lt;have h2:=h.jw.head.lt;have h3:=h.jw.row.lt;have h4:=h.E8;simp only [BB.blk,ρ,τ] at hx;rcases hx with rfl|rfl|rfl|rfl|hx|hx|hx
 ·exact h1
 ·exact h2
 ·exact h3
 ·exact h4
 ·exact h.cells.lt x hx
 ·exact (h.jw.nU hx).2
 ·obtain ⟨q,hq,e⟩:=jJ.1 hx;exact h.xI hq e
theorem jc.h0 (h:jc w B F gr cr lo A st S vs R):w.cell? ⟨B.n0,0,none⟩=some (.pointer (some ⟨B.c,0,none⟩)):=h.head.cellAt 0 ω rfl
theorem jc.h1 (h:jc w B F gr cr lo A st S vs R):w.cell? ⟨B.n0,1,none⟩=some (.pointer (some ⟨B.bt,0,none⟩)):=h.head.cellAt 1 ω rfl
theorem jc.h2 (h:jc w B F gr cr lo A st S vs R):w.cell? ⟨B.n0,2,none⟩=some (.slice (some ⟨gr,0,none⟩) vs.length cr):=h.head.cellAt 2 ω rfl
theorem jc.VS (h:jc w B F gr cr lo A st S vs R) {q:Nat} (hq:q<vs.length):w.cell? ⟨gr,q,none⟩=some (vs.getD q undef):=by
 rw [h.rows.cellAt q ω];simp [φ,hq]
theorem jc.rowf (h:jc w B F gr cr lo A st S vs R) (q:Nat):w.frozen? ⟨gr,q,none⟩=false:=h.rows.frozenAt q
theorem jc.YS (h:jc w B F gr cr lo A st S vs R):vs.length<=65537:=by rw [h.len];exact h.cells.ok.h1
theorem jc.cn (h:jc w B F gr cr lo A st S vs R):B.n0≠B.c/\gr≠B.c/\B.bt≠B.c/\B.ba≠B.c:=by
 have hm:=h.cells.mem;exact ⟨fun e=>h.d1.1 (e▸hm),fun e=>h.d1.2.2.2 (e▸hm),fun e=>h.d1.2.1 (e▸hm),fun e=>h.d1.2.2.1 (e▸hm)⟩
theorem jc.upd {w':World} {G:List Nat} (h:jc w B F gr cr lo A st S vs R) (hu:aa G w w') (hG:∀x,x∈G->x∉B.blk F gr A.cs.length S vs):jc w' B F gr cr lo A st S vs R:=by
 have k:∀x,x∈B.blk F gr A.cs.length S vs->x∉G:=fun x hx hg=>hG x hg hx;refine ⟨h.head.upd hu (k _ (by simp [BB.blk])),h.cells.upd hu (fun x hx hm=>hG x hx (by simp [BB.blk,hm])),h.jw.upd hu (k _ (by simp [BB.blk])) (k _ (by simp [BB.blk])) (fun g hg=>k _ (by simp [BB.blk,hg])),aF h.rows hu (fun g hg=>by simp [Value.ownBlock] at hg;subst hg;exact k _ (by simp [BB.blk])),h.len,fun q hq=>(h.each q hq).upd hu (fun g hg=>k _ ?_),h.d1,h.d2,h.d3,h.d4,h.d5⟩;simp only [BB.blk,ρ,τ];exact Or.inr (Or.inr (Or.inr (Or.inr (Or.inr (Or.inr (jJ.2 ⟨q,hq,hg⟩))))))
theorem jc.aA {w':World} (h:jc w B F gr cr lo A st S vs R) (hu:aa [] w w'):jc w' B F gr cr lo A st S vs R:=h.upd hu σ
theorem jc.dB {w':World} {F':List Nat} {A':NS} {st':Nat} (h:jc w B F gr cr lo A st S vs R) (hu:aa F w w') (hC:aG w' B.c F' A' st') (hF:∀x,x∈F'->x∈F\/w.heap.size<=x) (e1:A'.cs.length=A.cs.length) (e2:A'.hs.length=A.hs.length):jc w' B F' gr cr lo A' st' S vs R:=by
 have f:=h.d1;have g:=h.lt;have hf:∀x,x<w.heap.size->x∉F->x∉F':=fun x hx hn hm=>by rcases hF x hm with h'|h';exact hn h';omega
 have l0:=g B.n0 (by simp [BB.blk]);have l1:=g B.bt (by simp [BB.blk]);have l2:=g B.ba (by simp [BB.blk]);have l4:=g gr (by simp [BB.blk])
 refine ⟨h.head.upd hu f.1,hC,by rw [e1];exact h.jw.upd hu f.2.1 f.2.2.1 (fun x hx=>(h.d3 x hx).2.2),aF h.rows hu (fun g hg=>by simp [Value.ownBlock] at hg;subst hg;exact f.2.2.2),by rw [e2];exact h.len,
  fun q hq=>(h.each q hq).upd hu (fun g hg=>(h.d4 q g hq hg).2.2.2.2.1),⟨hf _ l0 f.1,hf _ l1 f.2.1,hf _ l2 f.2.2.1,hf _ l4 f.2.2.2⟩,h.d2,fun x hx=>?_,fun q x hq hx=>?_,h.d5⟩
 ·rw [e1] at hx;have:=h.d3 x hx;exact ⟨this.1,this.2.1,hf x (h.jw.nU hx).2 this.2.2⟩
 ·have:=h.d4 q x hq hx;rw [e1];exact ⟨this.1,this.2.1,this.2.2.1,this.2.2.2.1,hf x (h.xI hq hx) this.2.2.2.2.1,this.2.2.2.2.2⟩
theorem jc.j3 {w':World} {S':CS} {st':Nat} (h:jc w B F gr cr lo A st S vs R) (hu:aa (B.c::B.ba::S.blk A.cs.length) w w') (hC:aG w' B.c F A st') (hS:aX w' B.bt B.ba lo A.cs.length S') (hb:∀g,g∈S'.blk A.cs.length->g∈S.blk A.cs.length\/w.heap.size<=g):jc w' B F gr cr lo A st' S' vs R:=by
 have hcn:=h.cn;have g:=h.lt;have l0:=g B.n0 (by simp [BB.blk]);have l4:=g gr (by simp [BB.blk]);have k:∀x,x≠B.c->x≠B.ba->x∉S.blk A.cs.length->x∉B.c::B.ba::S.blk A.cs.length:=fun x h1 h2 h3 hm=>by
  simp only [ρ] at hm;rcases hm with hm|hm|hm
  ·exact h1 hm
  ·exact h2 hm
  ·exact h3 hm
 have hrow:∀q x,q<vs.length->(vs.getD q undef).ownBlock=some x->x∉B.c::B.ba::S.blk A.cs.length:=fun q x hq hx=>by
  have:=h.d4 q x hq hx;exact k x (fun e=>this.2.2.2.2.1 (e▸h.cells.mem)) this.2.2.1 this.2.2.2.2.2
 refine ⟨h.head.upd hu (k _ hcn.1 h.d2.2.1 (fun hm=>(h.d3 _ hm).1 rfl)),hC,hS,aF h.rows hu (fun x hx=>by simp [Value.ownBlock] at hx;subst hx;exact k _ hcn.2.1 (Ne.symm h.d2.2.2.2.2) (fun hm=>(h.d3 _ hm).2.1 rfl)),h.len,fun q hq=>(h.each q hq).upd hu (fun x hx=>hrow q x hq hx),h.d1,h.d2,fun x hx=>?_,fun q x hq hx=>?_,h.d5⟩
 ·rcases hb x hx with h'|h'
  ·exact h.d3 x h'
  ·exact ⟨ω,ω,fun hm=>by have:=h.cells.lt x hm;omega⟩
 ·have:=h.d4 q x hq hx;refine ⟨this.1,this.2.1,this.2.2.1,this.2.2.2.1,this.2.2.2.2.1,fun hm=>?_⟩;rcases hb x hm with h'|h'
  ·exact this.2.2.2.2.2 h'
  ·have:=h.xI hq hx;omega
theorem jc.XA {w1:World} {K:List Nat} (h:jc w B F gr cr lo A st S vs R) (q:Nat) (hq:q<vs.length) (hu1:aa K w w1) (hK:∀g,g∈K->(vs.getD q undef).ownBlock=some g) (v:Value) (X:List Int) (hv:bq w1 0 v X)
  (hg:∀g,v.ownBlock=some g->(g≠B.n0/\g≠B.bt/\g≠B.ba/\g≠gr/\g∉F/\g∉S.blk A.cs.length)/\∀k,k<vs.length->k≠q->(vs.getD k undef).ownBlock≠some g) :
  jc (w1.setCell ⟨gr,q,none⟩ v) B F gr cr lo A st S (vs.set q v) (dG R q X):=by
 have hu:aa [gr] w1 (w1.setCell ⟨gr,q,none⟩ v):=β;have kk:∀g,g∈K->g≠B.n0/\g≠B.bt/\g≠B.ba/\g≠gr/\g∉F/\g∉S.blk A.cs.length:=fun g hg=>h.d4 q g hq (hK g hg);have e:∀k,k<vs.length->(vs.set q v).getD k undef=if k=q then v else vs.getD k undef:=fun k hk=>by
  rw [ug]
  by_cases e:k=q
  ·rw [if_pos ⟨e,hq⟩,if_pos e]
  ·rw [if_neg (fun h=>e h.1),if_neg e]
 refine ⟨by rw [List.length_set];exact (h.head.upd hu1 (fun hm=>(kk _ hm).1 rfl)).upd hu (by simp;exact h.d2.2.2.1),(h.cells.upd hu1 (fun x hx=>(kk x hx).2.2.2.2.1)).upd hu (fun x hx hm=>by simp at hx;subst hx;exact h.d1.2.2.2 hm),
  (h.jw.upd hu1 (fun hm=>(kk _ hm).2.1 rfl) (fun hm=>(kk _ hm).2.2.1 rfl) (fun g hg hm=>(kk g hm).2.2.2.2.2 hg)).upd hu (by simp;exact h.d2.2.2.2.1) (by simp;exact h.d2.2.2.2.2) (fun x hx hm=>by simp at hm;exact (h.d3 x hx).2.1 hm),
  by rw [List.length_set];exact Vv (aF h.rows hu1 (fun g hg hm=>by simp [Value.ownBlock] at hg;subst hg;exact (kk _ hm).2.2.2.1 rfl)) q v,by rw [List.length_set];exact h.len,fun k hk=>?_,h.d1,h.d2,h.d3,fun k g hk e2=>?_,fun k j g hk hj hne e2=>?_⟩
 ·rw [List.length_set] at hk;rw [e k hk];unfold dG
  by_cases ek:k=q
  ·rw [if_pos ek,if_pos ek];exact hv.upd hu (fun g hg2 hm=>by simp at hm;exact (hg g hg2).1.2.2.2.1 hm)
  ·rw [if_neg ek,if_neg ek];exact ((h.each k hk).upd hu1 (fun g hg2 hm=>h.d5 k q g hk hq ek hg2 (hK g hm))).upd hu (fun g hg2 hm=>by simp at hm;exact (h.d4 k g hk hg2).2.2.2.1 hm)
 ·rw [List.length_set] at hk;rw [e k hk] at e2
  split at e2
  ·exact (hg g e2).1
  ·exact h.d4 k g hk e2
 ·rw [List.length_set] at hk hj;rw [e k hk] at e2;rw [e j hj]
  split at e2
  ·rename_i ek
   rw [if_neg (fun ej=>hne ω)];exact (hg g e2).2 j hj (fun ej=>hne ω)
  ·rename_i ek
   split
   ·rename_i ej
    intro e3;exact (hg g e3).2 k hk ek e2
   ·exact h.d5 k j g hk hj hne e2
theorem jc.BF (h:jc w B F gr cr lo A st S vs R) (q:Nat) (hq:q<vs.length) (v:Value) (X:List Int) (hv:bq w 0 v X)
  (hg:∀g,v.ownBlock=some g->(g≠B.n0/\g≠B.bt/\g≠B.ba/\g≠gr/\g∉F/\g∉S.blk A.cs.length)/\∀k,k<vs.length->k≠q->(vs.getD k undef).ownBlock≠some g) :
  jc (w.setCell ⟨gr,q,none⟩ v) B F gr cr lo A st S (vs.set q v) (dG R q X):=h.XA (K:=[]) q hq (aa.refl _ _) σ v X hv hg
theorem jc.abY {w1:World} (h:jc w B F gr cr lo A st S vs R) (q:Nat) (hq:q<vs.length) (hu:aa (vs.getD q undef).ownBlock.toList w w1) (v:Value) (X:List Int) (hv:bq w1 0 v X) (he:v.ownBlock=(vs.getD q undef).ownBlock) :
  jc (w1.setCell ⟨gr,q,none⟩ v) B F gr cr lo A st S (vs.set q v) (dG R q X):=
 h.XA q hq hu (fun g hg=>by simpa using hg) v X hv (fun g hg=>⟨h.d4 q g hq (by rw [←he];exact hg),fun k hk hne e=>h.d5 k q g hk hq hne e (by rw [←he];exact hg)⟩)
end
theorem bq.sl {w:World} {base:Nat} {F:List Nat} {v:Value} {xs:List Int} (h:bq w base v xs) (hF:∀g,v.ownBlock=some g->g∉F):iw w F v xs:=by
 obtain ⟨a,cap,rfl,h1,h2,h3⟩:=h.shape;refine ⟨a,cap,rfl,h1,h2,fun j u hj=>?_⟩;obtain ⟨g,off,rfl,hc⟩:=h3 j u hj;exact ⟨g,off,rfl,(h.lt g rfl).2,hF g rfl,hc⟩
section
variable {w:World} {B:BB} {F:List Nat} {gr cr lo:Nat} {A:NS} {st:Nat} {S:CS} {vs:List Value} {R:Nat->List Int}
theorem jc.shape (h:jc w B F gr cr lo A st S vs R) {q:Nat} (hq:q<vs.length):∃a cap,vs.getD q undef=.slice a (R q).length cap/\(R q).length<=cap/\cap<=9223372036854775807:=by
 obtain ⟨a,cap,e,h1,h2,_⟩:=(h.each q hq).shape;exact ⟨a,cap,e,h1,h2⟩
theorem jc.hq (h:jc w B F gr cr lo A st S vs R) {q:Int} (hh:bK A q=true):∃k:Nat,q=k/\1<=k/\k<vs.length:=by
 have:=(aT _ _).1 hh;have e:=h.len;exact ⟨q.toNat,ω,ω,ω⟩
theorem QL (M:jc w B F gr cr lo A st S vs R) (q:Nat) (hh:bK A q=true) {a:Option Addr} {n cap:Nat} (hv:vs.getD q undef=.slice a n cap) :
  Calls Tryz.prog 187 #[.pointer (some ⟨B.n0,0,none⟩),.int .i64 (q:Int)] w fun e w'=>e=.returned (.slice a n cap)/\w'=w:=by
 have k:=jN M.cells (q:Int);rw [hh] at k;have h0:=M.h0;have h2:=M.h2;obtain ⟨q',e,_,hq⟩:=M.hq hh;obtain rfl:q=q':=ω;have d:=M.VS hq;rw [hv] at d;have BP:(0:Int)<=(q:Int):=ω;have Gs:(q:Int)<(vs.length:Int):=ω;clear M hh hv e
 go_enter Tryz.func187,Tryz.ntmps187
 go_wp2_with ((go_at_call 139;(with_reducible refine (k).mono ?_);rintro e w9 ⟨rfl,aM⟩;rw [aM];clear aM w9))
 go_ret;exact ⟨rfl,rfl⟩
theorem UC (M:jc w B F gr cr lo A st S vs R) (q:Int) (hh:bK A q=false) :
  Calls Tryz.prog 187 #[.pointer (some ⟨B.n0,0,none⟩),.int .i64 q] w fun e w'=>e=.returned (.slice none 0 0)/\w'=w:=by
 have k:=jN M.cells q;rw [hh] at k;have h0:=M.h0;clear M hh
 go_enter Tryz.func187,Tryz.ntmps187
 go_wp2_with ((go_at_call 139;(with_reducible refine (k).mono ?_);rintro e w9 ⟨rfl,aM⟩;rw [aM];clear aM w9))
 go_ret;exact ⟨rfl,rfl⟩
theorem jc.ord (M:jc w B F gr cr lo A st S vs R):(bnO A B.n0 B.c F st).at_ w 0:=by
 have h:=M.cells.pI;refine ⟨M.head.lt,?_,M.h0,by rw [gL h];exact M.cells⟩;simp only [ρ,not_or];exact ⟨M.cn.1,M.d1.1⟩
theorem jc.apart (M:jc w B F gr cr lo A st S vs R):Apart (bnO A B.n0 B.c F st) B.bt B.ba A.cs.length S:=by
 have hc:=M.cn;refine ⟨?_,?_,fun g hg=>?_⟩
 ·show B.bt∉B.n0::B.c::F
  simp only [ρ,not_or];exact ⟨Ne.symm M.d2.1,hc.2.2.1,M.d1.2.1⟩
 ·show B.ba∉B.n0::B.c::F
  simp only [ρ,not_or];exact ⟨Ne.symm M.d2.2.1,hc.2.2.2,M.d1.2.2.1⟩
 ·show g∉B.n0::B.c::F
  have:=M.d3 g hg;simp only [ρ,not_or];exact ⟨this.1,fun e=>this.2.2 (e▸M.cells.mem),this.2.2⟩
theorem Kz (M:jc w B F gr cr lo A st S vs R) (ok:oO A.cs.length S.f) {va vl:Value} {X L:List Int} (hva:iw w (B.c::B.ba::S.blk A.cs.length) va X) (hvl:iw w (B.c::B.ba::S.blk A.cs.length) vl L)
  (hA:lV A.cs.length S.f X) (hB:lV A.cs.length S.f L) (hd:∀x,x∈X->x∉L) (hin:∀z,z∈X\/z∈L->bX A z=true) :
  Calls Tryz.prog 194 #[.pointer (some ⟨B.bt,0,none⟩),.iface 174 (.pointer (some ⟨B.n0,0,none⟩)),va,vl] w fun e w'=>
   ∃S' vo,e=.returned (.tuple #[vo,.bool true])/\S'.f=(lG (cB A) A.cs.length S.f X L).F/\jc w' B F gr cr lo A (bZ st (lG (cB A) A.cs.length S.f X L).q) S' vs R/\bq w' w.heap.size vo (lG (cB A) A.cs.length S.f X L).O/\
    aa (B.c::B.ba::S.blk A.cs.length) w w'/\(∀g,g∈S'.blk A.cs.length->g∈S.blk A.cs.length\/w.heap.size<=g)/\(∀g,vo.ownBlock=some g->g∉S'.blk A.cs.length)/\∃a n cap,vo=.slice a n cap:=by
 refine (Nb (bnO A B.n0 B.c F st) B.bt B.ba lo A.cs.length S va vl X L 0 w ⟨M.jw,M.ord,M.apart,M.jw.head.lt,ok⟩ hva hvl hA hB hd (Nat.zero_le _) (fun x hx=>hin x (Or.inl hx)) (fun x hx=>hin x (Or.inr hx))).mono ?_;rintro e w' ⟨S',vo,O,q',rfl,hFL,hTo,hG,hO,hS,hu,hb,hx⟩;obtain ⟨e1,e2,e3⟩:=Zq hG (oM A) M.jw.le hTo;have e1:(lG (cB A) A.cs.length S.f X L).F=S'.f:=e1;have e2:(lG (cB A) A.cs.length S.f X L).O=O:=e2;have e3:(lG (cB A) A.cs.length S.f X L).q=q':=e3;rw [e1,e2,e3];obtain ⟨a,cap,e4,_⟩:=hO.shape;exact ⟨S',vo,rfl,rfl,M.j3 hu hFL.l.2.2.2 hFL.f hb,hO,hu,hb,hx,a,_,cap,e4⟩
theorem Gl (M:jc w B F gr cr lo A st S vs R) (ok:oO A.cs.length S.f) (q:Nat) (hq:q<vs.length) {vl:Value} {L:List Int} (hvl:iw w (B.c::B.ba::S.blk A.cs.length) vl L)
  (hA:lV A.cs.length S.f (R q)) (hB:lV A.cs.length S.f L) (hd:∀x,x∈R q->x∉L) (hin:∀z,z∈R q\/z∈L->bX A z=true) :
  Calls Tryz.prog 186 #[.pointer (some ⟨B.n0,0,none⟩),.int .i64 (q:Int),vl] w fun e w'=>
   ∃S' vo,e=.returned (.tuple #[])/\S'.f=(lG (cB A) A.cs.length S.f (R q) L).F/\jc w' B F gr cr lo A (bZ st (lG (cB A) A.cs.length S.f (R q) L).q) S' (vs.set q vo) (dG R q (lG (cB A) A.cs.length S.f (R q) L).O)/\
    aa (B.c::B.ba::gr::S.blk A.cs.length) w w'/\(∀g,g∈S'.blk A.cs.length->g∈S.blk A.cs.length\/w.heap.size<=g)/\(∀g,vo.ownBlock=some g->w.heap.size<=g):=by
 have hrow:iw w (B.c::B.ba::S.blk A.cs.length) (vs.getD q undef) (R q):=(M.each q hq).sl (fun g hg hm=>by
  have:=M.d4 q g hq hg;simp only [ρ] at hm;rcases hm with e|e|e
  ·exact this.2.2.2.2.1 (e▸M.cells.mem)
  ·exact this.2.2.1 e
  ·exact this.2.2.2.2.2 e)
 have kc:=fun W (hW:aa [] w W)=>Kz (M.aA hW) ok (hrow.upd hW σ) (hvl.upd hW σ) hA hB hd hin;obtain ⟨a,cap,hv,_⟩:=M.shape hq;obtain ⟨a2,cap2,hv2,_⟩:=hvl;subst hv2;rw [hv] at kc;have h1:=M.h1;have h2:=M.h2;have d:=M.VS hq;rw [hv] at d;have df:=M.rowf q;have hcn:=M.cn;have nn:∀x,x≠B.c->x≠B.ba->x∉S.blk A.cs.length->x∉B.c::B.ba::S.blk A.cs.length:=fun x h1 h2 h3 hm=>by
  simp only [ρ] at hm;rcases hm with hm|hm|hm
  ·exact h1 hm
  ·exact h2 hm
  ·exact h3 hm
 have n0:B.n0∉B.c::B.ba::S.blk A.cs.length:=nn _ hcn.1 M.d2.2.1 (fun hm=>(M.d3 _ hm).1 rfl);have ng:gr∉B.c::B.ba::S.blk A.cs.length:=nn _ hcn.2.1 (Ne.symm M.d2.2.2.2.2) (fun hm=>(M.d3 _ hm).2.1 rfl);have r1:∀W,aa (B.c::B.ba::S.blk A.cs.length) w W->W.cell? ⟨B.n0,1,none⟩=some (.pointer (some ⟨B.bt,0,none⟩)):=fun W hW=>hW.kept h1 n0;have r2:∀W,aa (B.c::B.ba::S.blk A.cs.length) w W->W.cell? ⟨B.n0,2,none⟩=some (.slice (some ⟨gr,0,none⟩) vs.length cr):=fun W hW=>hW.kept h2 n0
 have r3:∀W,aa (B.c::B.ba::S.blk A.cs.length) w W->W.cell? ⟨gr,q,none⟩=some (.slice a (R q).length cap)/\W.frozen? ⟨gr,q,none⟩=false:=fun W hW=>⟨hW.kept d ng,hW.aR d ng df⟩
 have BP:(0:Int)<=(q:Int):=ω;have Gs:(q:Int)<(vs.length:Int):=ω;have hgl:=M.E8;have HM:=χ M;have hvl2:=M.YS;clear M hrow hA hB hd hin hv hcn nn;generalize hC:lG (cB A) A.cs.length S.f (R q) L=C at *;generalize hrl:(R q).length=rl at *;generalize hll:L.length=ll at *;clear hC hrl hll
 go_enter Tryz.func186,Tryz.ntmps186
 go_wp2
 go_region_law
  (first
   | (go_simp;go_at_call 194;(with_reducible refine (kc _ β).mono ?_);rintro e w5 ⟨S5,vo,rfl,hS5,wZ,BO,xL,hb5,hx5,a5,n5,c5,rfl⟩;(have cu:aa (B.c::B.ba::S.blk A.cs.length) w w5:=aa.trans β xL);(have q1:=r1 _ cu);(have q2:=r2 _ cu);obtain ⟨q3,q4⟩:=r3 _ cu))
 all_goals
  go_wp2;go_end0;refine ⟨S5,_,rfl,hS5,wZ.BF q hq _ C.O (BO.mono (Nat.zero_le _)) (fun g hg=>?_),(cu.mono (fun y hy=>?_)).setCell (Or.inl σ) _,fun g hg=>?_,fun g hg=>?_⟩
  ·have hgs:=(BO.lt g hg).1;have ll:=HM.out.lt;have hw:w.heap.size<=g:=hgs;refine ⟨⟨?_,?_,?_,?_,fun hm=>?_,hx5 g hg⟩,fun k hk hne e=>?_⟩
   ·have:=ll B.n0 (by simp [BB.blk]);omega
   ·have:=ll B.bt (by simp [BB.blk]);omega
   ·have:=ll B.ba (by simp [BB.blk]);omega
   ·omega
   ·have:=HM.out.cells.lt g hm;omega
   ·have:=HM.out.xI hk e;omega
  ·simp only [ρ] at hy ⊢;rcases hy with hy|hy|hy
   ·exact Or.inl hy
   ·exact Or.inr (Or.inl hy)
   ·exact Or.inr (Or.inr (Or.inr hy))
  ·exact hb5 g hg
  ·exact (BO.lt g hg).1
end
theorem bq.row {w:World} {base:Nat} {v:Value} {xs:List Int} (h:bq w base v xs) (hne:xs≠[]):∃g off cap m f,v=.slice (some ⟨g,off,none⟩) xs.length cap/\base<=g/\aO w g 3 m f/\xs.length<=cap/\cap<=9223372036854775807/\off+cap<=m/\∀j u,xs[j]?=some u->f (off+j)=.int .i64 u:=by
 rcases h with ⟨_,e⟩|⟨g,off,cap,cur,rfl,hb,hg,h1,h2,h3,h4⟩
 ·exact absurd e hne
 ·refine ⟨g,off,cap,cur.size,fun j=>cur.getD j undef,rfl,hb,⟨cur,hg,rfl,fun j hj=>by simp [hj]⟩,h1,h2,h3,fun j u hj=>?_⟩;have:=h4 j u hj;simp [Array.getD_eq_getD_getElem?,this]
theorem aO.off {w:World} {base g off cap m:Nat} {f:Nat->Value} {ys:List Int} (h:aO w g 3 m f) (hb:base<=g) (h1:ys.length<=cap) (h2:cap<=9223372036854775807) (h3:off+cap<=m) (h4:∀j u,ys[j]?=some u->f (off+j)=.int .i64 u):bq w base (.slice (some ⟨g,off,none⟩) ys.length cap) ys:=by
 obtain ⟨arr,a1,a2,a3⟩:=h;refine Or.inr ⟨g,off,cap,arr,rfl,hb,a1,h1,h2,ω,fun j u hj=>?_⟩;have hjl:j<ys.length:=(List.getElem?_eq_some_iff.1 hj).1;rw [a3 (off+j) ω,h4 j u hj]
theorem Cv (w:World) (b:Nat) (x y:Int) (h:w.cell? ⟨b,0,none⟩=some (.int .i64 x)) :
  Calls Tryz.prog 192 #[.int .i64 y,.pointer (some ⟨b,0,none⟩)] w fun e w'=>e=.returned (.bool (x == y))/\w'=w:=by
 go_enter Tryz.func192,Tryz.ntmps192
 go_wp2;go_ret;exact ⟨rfl,rfl⟩
theorem Jy (w:World) (F:List Nat) (b:Nat) (v:Value) (l1 l2:List Int) (x:Int) (h:iw w F v (l1++x::l2)) (hn:x∉l1) (hb:w.cell? ⟨b,0,none⟩=some (.int .i64 x)) :
  Calls Tryz.prog 197 #[v,.func (Fn.func 192) #[] #[.pointer (some ⟨b,0,none⟩)]] w fun e w'=>e=.returned (.int .i64 (l1.length:Int))/\w'=w:=by
 obtain ⟨a,cap,rfl,hlc,hcp,hp⟩:=h;have HP:=χ hp;clear hp;have hg:∀q,q<l1.length->(l1++x::l2)[q]?=l1[q]?:=fun q hq=>List.getElem?_append_left hq;have hx:(l1++x::l2)[l1.length]?=some x:=by rw [List.getElem?_append_right (Nat.le_refl _)];simp
 have hl:l1.length<(l1++x::l2).length:=σ;generalize l1++x::l2=xs at *;generalize hxl:xs.length=len at *;have HN:=χ (ψ hn (ψ hg hx));have kc:=fun y=>Cv w b x y hb;clear hn hg hx hb hxl;generalize hk:l1.length=k at *;have HK:=χ hk;clear hk
 go_enter Tryz.func197,Tryz.ntmps197
 go_wp2
 go_loop [8] (fun i=>∃q:Nat,q<=k/\i=.int .i64 (q:Int)) (fun i=>k+1-(intOf i).toNat)
 case atStart=>exact ⟨0,ω,rfl⟩
 case round=>
  obtain ⟨q,hq,rfl⟩:=hrel;have hql:(q:Int)<(len:Int):=ω
  by_cases hqk:q<k
  ·obtain ⟨y,pY⟩:∃y,l1[q]?=some y:=⟨l1[q]'(by rw [HK.out];exact hqk),σ⟩;obtain ⟨gb,off,rfl,_,_,hc⟩:=HP.out q y (by rw [HN.out.2.1 q hqk];exact pY);have k1:=kc y;have hxy:(x == y)=false:=by
    have:x≠y:=fun e=>HN.out.1 (by rw [e];exact List.mem_of_getElem? pY);simpa using this
   rw [hxy] at k1;clear pY kc
   go_wp2_with ((go_at_call 192;(with_reducible refine (k1).mono ?_);rintro e w9 ⟨rfl,aM⟩;rw [aM];clear aM w9))
   go_round
   case rel=>exact ⟨q+1,ω,by go_num⟩
   case measure=>simp [intOf];omega
  ·obtain rfl:q=k:=ω;obtain ⟨gb,off,rfl,_,_,hc⟩:=HP.out q x HN.out.2.2;have k1:=kc x;rw [show (x == x)=true by simp] at k1;clear kc
   go_wp2_with ((go_at_call 192;(with_reducible refine (k1).mono ?_);rintro e w9 ⟨rfl,aM⟩;rw [aM];clear aM w9))
   go_ret;exact ⟨rfl,rfl⟩
theorem SX (w:World):(zeroValue 3).run Tryz.prog w=.ok (.int .i64 0) w:=by kernel_rfl
theorem Qz (w:World) (b base:Nat) (v:Value) (l1 l2:List Int) (x:Int) (h:bq w base v (l1++x::l2)) (hn1:x∉l1) (hn2:x∉l2) (hb:w.cell? ⟨b,0,none⟩=some (.int .i64 x)) (hbv:v.ownBlock≠some b) (hlen:(l1++x::l2).length<=1000000) :
  Calls Tryz.prog 191 #[v,.func (Fn.func 192) #[] #[.pointer (some ⟨b,0,none⟩)]] w fun e w'=>∃v',e=.returned v'/\bq w' base v' (l1++l2)/\v'.ownBlock=v.ownBlock/\aa v.ownBlock.toList w w'/\∃a n c,v'=.slice a n c:=by
 have ki:=Jy w [] b v l1 l2 x (by
  obtain ⟨a,cap,rfl,h1,h2,h3⟩:=h.shape;refine ⟨a,cap,rfl,h1,h2,fun j u hj=>?_⟩;obtain ⟨g,off,rfl,hc⟩:=h3 j u hj
  exact ⟨g,off,rfl,(h.lt g rfl).2,σ,hc⟩) hn1 hb
 obtain ⟨g,off,cap,m,f,rfl,hbg,hR,hlc,hcp,hcm,hf⟩:=h.row σ;have hbg2:b≠g:=fun e=>hbv (by rw [e];rfl);have hx1:∀j,j<l1.length->(l1++x::l2)[j]?=l1[j]?:=fun j hj=>List.getElem?_append_left hj;have hx2:∀j,l1.length<j->(l1++x::l2)[j]?=l2[j-(l1.length+1)]?:=fun j hj=>by
  rw [List.getElem?_append_right ω,show j-l1.length=(j-(l1.length+1))+1 by omega,List.getElem?_cons_succ]
 have hln:(l1++x::l2).length=l1.length+l2.length+1:=ζ;simp only [hln] at hlc hlen ki ⊢;have hy1:∀j,j<l1.length->(l1++l2)[j]?=l1[j]?:=fun j hj=>List.getElem?_append_left hj;have hy2:∀j,l1.length<=j->(l1++l2)[j]?=l2[j-l1.length]?:=fun j hj=>List.getElem?_append_right hj;have hyl:(l1++l2).length=l1.length+l2.length:=σ;have HF:=χ (ψ hf (ψ hx1 (ψ hx2 (ψ hy1 (ψ hy2 hyl)))));have HR:=χ hR;have HN:=χ hn2;clear h hf hx1 hx2 hy1 hy2 hyl hn1 hn2 hR;have hlt:g<w.heap.size:=HR.out.lt;generalize hk:l1.length=k at *;generalize hl:l2.length=l at *;have HK:=χ (ψ hk hl)
 have hkm1:((k:Int) == -1)=false:=beq_eq_false_iff_ne.2 ω;have hwr0:IntKind.i64.wrap ((k:Int)+1)=((k+1:Nat):Int):=by rw [IntWalk.i64_in _ ω];omega
 clear hk hl hln hlen hbv
 go_enter Tryz.func191,Tryz.ntmps191
 go_wp2_with ((go_at_call 197;(with_reducible refine (ki).mono ?_);rintro e w9 ⟨rfl,aM⟩;rw [aM];clear aM w9))
 clear ki
 go_loopw [5,6,7] (fun s5 s6 _ wr=>∃ (j:Nat) (fj:Nat->Value),s5=.int .i64 ((k+j:Nat):Int)/\s6=.int .i64 ((k+j+1:Nat):Int)/\j<=l/\aO wr g 3 m fj/\(∀q,q<off+k->fj q=f q)/\(∀q u,q<j->l2[q]?=some u->fj (off+k+q)=.int .i64 u)/\(∀q,off+k+j<=q->fj q=f q)/\aa [g] w wr) (fun _ s6 _ _=>k+l+1-(intOf s6).toNat)
 case atStart=>exact ⟨0,f,σ,σ,ω,HR.out,fun q hq=>rfl,fun q u hq=>ω,fun q hq=>rfl,aa.refl _ _⟩
 case round=>
  obtain ⟨j,fj,rfl,rfl,hj,hRj,hf1,hf2,hf3,hu⟩:=hrel;rename World=>wr;have HJ:=χ (ψ hf1 (ψ hf2 hf3));have HRj:=χ hRj;have HJR:=χ hRj;have hbc:=hu.kept hb (by simp;exact hbg2)
  by_cases hjl:j<l
  ·obtain ⟨y,pY⟩:∃y,l2[j]?=some y:=⟨l2[j]'(by rw [HK.out.2];exact hjl),σ⟩;have c0:=hRj.cellAt (off+(k+j+1)) ω ((hf3 _ ω).trans (HF.out.1 (k+j+1) y (by rw [HF.out.2.2.1 _ ω,show k+j+1-(k+1)=j by omega];exact pY)));have c1:=hRj.cell (off+(k+j)) ω;have f1:=hRj.free (off+(k+j));have hxy:(x == y)=false:=by
    have:x≠y:=fun e=>HN.out (by rw [e];exact List.mem_of_getElem? pY);simpa using this
   have kc:=Cv wr b x y hbc;rw [hxy] at kc;have hi1:((k+j+1:Nat):Int)<((k+l+1:Nat):Int):=ω;have hi2:((k+j:Nat):Int)<((k+l+1:Nat):Int):=ω;have hw1:IntKind.i64.wrap (((k+j:Nat):Int)+1)=((k+(j+1):Nat):Int):=by rw [IntWalk.i64_in _ ω];omega
   have hw2:IntKind.i64.wrap (((k+j+1:Nat):Int)+1)=((k+(j+1)+1:Nat):Int):=by rw [IntWalk.i64_in _ ω];omega
   have HY:=χ pY;clear hf1 hf2 hf3 hRj pY;generalize hA:k+j+1=ja at *;generalize hB:k+j=jb at *;generalize hL:k+l+1=jl at *
   go_wp2_with ((go_at_call 192;(with_reducible refine (kc).mono ?_);rintro e w9 ⟨rfl,aM⟩;rw [aM];clear aM w9))
   go_roundw
   case rel=>
    refine ⟨j+1,_,by go_num,by go_num,ω,HRj.out.set (off+jb) _,fun q hq=>?_,fun q u hq hqu=>?_,fun q hq=>?_,hu.setCell (Or.inl σ) _⟩
    ·rw [if_neg ω];exact HJ.out.1 q hq
    ·by_cases e:q=j
     ·subst e;rw [if_pos ω];rw [HY.out] at hqu;cases hqu;rfl
     ·rw [if_neg ω];exact HJ.out.2.1 q u ω hqu
    ·rw [if_neg ω];exact HJ.out.2.2 q ω
   case measure=>simp [intOf];omega
  ·obtain rfl:j=l:=ω;have c1:=hRj.cell (off+(k+j)) ω;have f1:=hRj.free (off+(k+j));have hcl:∀ty,(Builtin.clear_ #[26] ty #[.slice (some ⟨g,off+(k+j),none⟩) 1 (cap-(k+j))]).run Tryz.prog wr=.ok (.tuple #[]) (wr.setCell ⟨g,off+(k+j),none⟩ (.int .i64 0)):=fun ty=>by
    have:=Lib.run_clear_slice wr 26 3 ty (.int .i64 0) Tryz.underlying26 SX rfl rfl g (off+(k+j)) 1 (cap-(k+j)) ω (fun t ht=>by rw [show off+(k+j)+t=off+(k+j) by omega,c1];rfl) (fun t ht=>by rw [show off+(k+j)+t=off+(k+j) by omega];exact f1);rw [this]
    rfl
   have HCM:=χ hcm;have hi3:¬ ((k+j+1:Nat):Int)<((k+j+1:Nat):Int):=ω;have hJB:=χ (show k+j=k+j from rfl);clear hf1 hf2 hf3 hRj c1 hcm hbc hb;generalize hB:k+j=jb at *;go_wp2;go_ret;have hR2:=HJR.out.set (off+jb) (.int .i64 0);have hk1:=HK.out.1;have hk2:=HK.out.2;have hlen:(l1++l2).length=jb:=by have:=HF.out.2.2.2.2.2;omega
   have hO:=hR2.off (base:=base) (ys:=l1++l2) (off:=off) (cap:=cap) hbg ω hcp HCM.out (fun q u hq=>by
    have hql:q<(l1++l2).length:=(List.getElem?_eq_some_iff.1 hq).1;rw [if_neg ω]
    by_cases e:q<k
    ·rw [HJ.out.1 (off+q) ω];exact HF.out.1 q u (by rw [HF.out.2.1 q ω];rw [HF.out.2.2.2.1 q ω] at hq;exact hq)
    ·have h3:=HF.out.2.2.2.2.1 q ω;have h5:l2[q-k]?=some u:=by rw [←hq,h3]
     have:=HJ.out.2.1 (q-k) u ω h5;rw [show off+k+(q-k)=off+q by omega] at this
     exact this)
   rw [hlen] at hO;exact ⟨_,rfl,hO,rfl,hu.setCell (Or.inl σ) _,_,_,_,rfl⟩
end Go.Proofs.YtklibcncmbofpaaGreat
