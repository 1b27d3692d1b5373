/-
  Lemmas for ProofHolds: KarPl2, KarLaw, FrOk, BnP, BnQ, BnR. Conditions: those of each lemma.
-/
import Derived.Test.YtklibcncmbofpaaGreatR13
set_option linter.all false
set_option maxHeartbeats 8000000
set_option maxRecDepth 10000
namespace Go.Proofs.YtklibcncmbofpaaGreat
def wt(n:Nat)(F:CF)(l:List Int):Nat:=(l.map (fun x=>2 ^ (dE n F x).toNat)).sum
theorem Ew{n:Nat}{F:CF}{l m:List Int}(h:l.Perm m):wt n F l=wt n F m:=by
 unfold wt;exact(h.map _).sum_nat
theorem Aq{n:Nat}{F F':CF}{l:List Int}(h:∀x,x∈l->dE n F x=dE n F' x):wt n F l=wt n F' l:=by
 unfold wt
 congr 1
 exact List.map_congr_left (fun x hx=>by rw[h x hx])
structure RI(lt:Int->Int->Bool)(n:Nat)(C0 C:CC):Prop where
 sub:∀x,x∈C.L->x∈C0.L
 out:∀x:Nat,(x:Int)∉C0.L->C.F.u x=C0.F.u x/\C.F.k x=C0.F.k x
 wt:wt n C.F C.L=wt n C0.F C0.L
 nl:∀y p:Nat,y<n->C.F.u y=p->C0.F.u y=p\/((y:Int)∈C0.L/\(p:Int)∈C0.L/\y≠p/\lt y p=false)
 ro:∀y:Nat,(y:Int)∈C0.L->(y:Int)∈C.L\/∃p:Nat,p<n/\C.F.u y=p
theorem RI.refl(lt:Int->Int->Bool)(n:Nat)(C:CC):RI lt n C C:=⟨fun x h=>h,fun x _=>⟨rfl,rfl⟩,rfl,fun y p _ h=>Or.inl h,fun y h=>Or.inl h⟩
theorem RI.trans{lt:Int->Int->Bool}{n:Nat}{A B C:CC}(h:RI lt n A B)(k:RI lt n B C):RI lt n A C:=
 ⟨fun x hx=>h.sub x (k.sub x hx),fun x hx=>by
  have h1:=h.out x hx;have h2:=k.out x (fun hm=>hx (h.sub _ hm));exact⟨h2.1.trans h1.1,h2.2.trans h1.2⟩,k.wt.trans h.wt,fun y p hy hu=>by
  rcases k.nl y p hy hu with h1|⟨h1,h2,h3,h4⟩
  ·exact h.nl y p hy h1
  ·exact Or.inr ⟨h.sub _ h1,h.sub _ h2,h3,h4⟩,fun y hy=>by
  by_cases hB:(y:Int)∈B.L
  ·exact k.ro y hB
  ·rcases h.ro y hy with h1|⟨p,hp,h1⟩
   ·exact absurd h1 hB
   ·exact Or.inr ⟨p,hp,by rw[(k.out y hB).1];exact h1⟩⟩
theorem RI.perm{lt:Int->Int->Bool}{n:Nat}{C D:CC}(hp:D.L.Perm C.L)(hF:D.F=C.F):RI lt n C D:=
 ⟨fun x hx=>hp.mem_iff.1 hx,fun x _=>by rw[hF];exact⟨rfl,rfl⟩,by rw[hF];exact Ew hp,fun y p _ h=>by rw[hF]at h;exact Or.inl h,fun y h=>Or.inl (hp.mem_iff.2 h)⟩
theorem VH{lt:Int->Int->Bool}{n k:Nat}{C:CC}(has:∀a b,lt a b=true->lt b a=false)(h:G n (k+1) (k+1) k (k+1) C)(hN:C.N=[]\/∃x y,C.N=[x,y]):RI lt n C (nz lt C):=by
 rcases hN with hN|⟨x,y,hN⟩
 ·have e:nz lt C=C:=by unfold nz;rw[hN]
  rw[e];exact RI.refl _ _ _
 ·obtain⟨a,b,rfl,rfl,ha,hb,hne,ra,rb,da,db⟩:=KF h hN;have e:nz lt C={ C with F:=iA C.F (jS lt a b) (nu lt a b),N:=[(jS lt a b:Int)],q:=C.q+1 }:=by unfold nz;rw[hN];simp
  rw[e];obtain⟨hi,lo,ehi,elo,hhi,hlo,hne2,dhi,dlo,hah,Y7⟩:∃hi lo,jS lt a b=hi/\nu lt a b=lo/\hi<n/\lo<n/\hi≠lo/\(C.F.k hi).length=k/\(C.F.k lo).length=k/\lt lo hi=false/\((hi=a/\lo=b)\/(hi=b/\lo=a)):=by
   unfold jS nu
   by_cases hab:lt b a=true
   ·rw[if_pos hab,if_pos hab];exact⟨b,a,rfl,rfl,hb,ha,Ne.symm hne,db,da,has _ _ hab,Or.inr ⟨rfl,rfl⟩⟩
   ·rw[if_neg hab,if_neg hab];exact⟨a,b,rfl,rfl,ha,hb,hne,da,db,by simpa using hab,Or.inl ⟨rfl,rfl⟩⟩
  have PV:C.L.Perm ((hi:Int)::(lo:Int)::(C.A++(C.B++C.O))):=by
   unfold CC.L;rw[hN,List.perm_iff_count];intro y;rcases Y7 with⟨rfl,rfl⟩|⟨rfl,rfl⟩<;>simp[List.count_append,List.count_cons]<;>omega
  have hL:(CC.L { C with F:=iA C.F hi lo,N:=[(hi:Int)],q:=C.q+1 }).Perm ((hi:Int)::(C.A++(C.B++C.O))):=by
   unfold CC.L;simp only;rw[List.perm_iff_count];intro y;simp[List.count_append,List.count_cons];omega
  have DL:=PV.nodup_iff.1 h.nd;rw[List.nodup_cons,List.nodup_cons]at DL;rw[ehi,elo];refine⟨fun x hx=>PV.mem_iff.2 ?_,fun x hx=>?_,?_,fun y p hy hu=>?_,fun y hy=>?_⟩
  ·rcases ρ.1 (hL.mem_iff.1 hx)with rfl|hx
   ·simp
   ·exact List.mem_cons_of_mem _ (List.mem_cons_of_mem _ hx)
  ·unfold iA;simp only;rw[if_neg (fun e=>hx (by subst e;exact PV.mem_iff.2 σ)),if_neg (fun e=>hx (by subst e;exact PV.mem_iff.2 σ))];exact⟨rfl,rfl⟩
  ·rw[Ew hL,Ew PV];have hd:∀z,z∈C.A++(C.B++C.O)->dE n (iA C.F hi lo) z=dE n C.F z:=fun z hz=>by
    have hr:=h.rt z (PV.mem_iff.2 (List.mem_cons_of_mem _ (List.mem_cons_of_mem _ hz)));rw[xx n C.F hhi z ⟨hr.1,hr.2.1⟩,if_neg (fun e=>by subst e;exact DL.1 (List.mem_cons_of_mem _ hz))]
   have e1:=Aq hd;have e2:dE n (iA C.F hi lo) (hi:Int)=(k:Int)+1:=by rw[xx n C.F hhi hi ω,if_pos rfl,fK n C.F hhi,dhi]
   have e3:dE n C.F (hi:Int)=(k:Int):=by rw[fK n C.F hhi,dhi]
   have e4:dE n C.F (lo:Int)=(k:Int):=by rw[fK n C.F hlo,dlo]
   have:∀ (F:CF) (x:Int) (l:List Int),wt n F (x::l)=2 ^ (dE n F x).toNat + wt n F l:=fun F x l=>by unfold wt;simp
   rw[this,this,this,e1,e2,e3,e4];have e5:((k:Int)+1).toNat=k+1:=ω;rw[e5,π,Nat.pow_succ];omega
  ·unfold iA at hu;simp only at hu
   split at hu
   ·rename_i e
    subst e;obtain rfl:hi=p:=ω;exact Or.inr ⟨PV.mem_iff.2 σ,PV.mem_iff.2 σ,Ne.symm hne2,hah⟩
   ·exact Or.inl hu
  ·rcases ρ.1 (PV.mem_iff.1 hy)with e|hy
   ·exact Or.inl (hL.mem_iff.2 (by rw[e];simp))
   ·rcases ρ.1 hy with e|hy
    ·refine Or.inr ⟨hi,hhi,?_⟩;unfold iA;simp only;rw[if_pos ω]
    ·exact Or.inl (hL.mem_iff.2 (List.mem_cons_of_mem _ hy))
theorem Jg{lt:Int->Int->Bool}{n:Nat}{C0:CC}(has:∀a b,lt a b=true->lt b a=false)(h:G n 0 0 0 0 C0)(hN:C0.N=[]):∀k,RI lt n C0 (gV lt n k C0)
 | 0=>RI.refl _ _ _
 | k+1=>by
  obtain⟨g,h1,h2⟩:=Hq (lt:=lt) h hN k;have g1:=D6 g;have g2:=Ey g1;have g3:=EE g2;have t1:=(xW n k (gV lt n k C0)).2;have t2:=(xO n k (takeA n k (gV lt n k C0))).2;have ev:=Bp (C:=takeB n k (takeA n k (gV lt n k C0))) ω;have r4:=VH has g3 ev;exact((((Jg has h hN k).trans (RI.perm (qG n k _) (MC n k _))).trans (RI.perm (qJ n k _) (LG n k _))).trans (RI.perm (qX _) (LJ _))).trans r4
theorem g_ok{lt:Int->Int->Bool}{n:Nat}{C0:CC}{dom:Int->Prop}(has:∀a b,lt a b=true->lt b a=false)(hdm:∀x,x∈C0.L->dom x)(h:G n 0 0 0 0 C0)(hN:C0.N=[])(hn:n<=65536)(hq:C0.q<=900000)(k:Nat):MP dom lt n k (gV lt n k C0):=by
 obtain⟨g,h1,h2⟩:=Hq (lt:=lt) h hN k;have hL0:C0.L.length<=n:=sU n _ h.nd (fun x hx=>by have:=h.rt x hx;omega);have hL:(gV lt n k C0).L.length<=n:=sU n _ g.nd (fun x hx=>by have:=g.rt x hx;omega);have hLL:(gV lt n k C0).L.length=(gV lt n k C0).A.length+((gV lt n k C0).B.length+((gV lt n k C0).N.length+(gV lt n k C0).O.length)):=by unfold CC.L;simp
 have dn:∀x,x∈(gV lt n k C0).L->dE n (gV lt n k C0).F x<=n:=fun x hx=>by
  have hr:=g.rt x hx;obtain⟨y,rfl⟩:=Int.eq_ofNat_of_zero_le hr.1;have hy:y<n:=ω;rw[fK _ _ hy];have:=g.f.len hy;omega
 refine⟨h1,fun x y hxy=>?_,ω,ω,fun hne=>?_⟩
 ·have g3:=EE (Ey (D6 g));obtain⟨a,b,e1,e2,ha,hb,hab,ra,rb,da,db⟩:=KF g3 hxy;have hsub:∀z,z∈(fO (takeB n k (takeA n k (gV lt n k C0)))).L->dom z:=fun z hz=>hdm z ((Jg has h hN k).sub z ((qG n k _).mem_iff.1 ((qJ n k _).mem_iff.1 ((qX _).mem_iff.1 hz))));have da':dom (a:Int):=by rw[←e1];exact hsub x (by unfold CC.L;rw[hxy];simp)
  have db':dom (b:Int):=by rw[←e2];exact hsub y (by unfold CC.L;rw[hxy];simp)
  refine⟨a,b,e1,e2,da',db',ha,hb,hab,?_,?_,?_,g3.f.len ha,g3.f.len hb⟩
  ·unfold Aw;rw[decide_eq_true ω];simp[ra]
  ·unfold Aw;rw[decide_eq_true ω];simp[rb]
  ·rw[fK _ _ ha,fK _ _ hb,da,db]
 ·rcases hne with hne|hne|hne
  ·obtain⟨x,t,e⟩:=List.exists_cons_of_ne_nil hne;have h3:=g.a2 x (by rw[e];simp);have h4:=dn x (by unfold CC.L;rw[e];simp);omega
  ·obtain⟨x,t,e⟩:=List.exists_cons_of_ne_nil hne;have h3:=g.b2 x (by rw[e];simp);have h4:=dn x (by unfold CC.L;rw[e];simp);omega
  ·obtain⟨x,t,e⟩:=List.exists_cons_of_ne_nil hne;have h3:=g.n1 x (by rw[e];simp);have h4:=dn x (by unfold CC.L;rw[e];simp);omega
end Go.Proofs.YtklibcncmbofpaaGreat
namespace Go.Proofs.YtklibcncmbofpaaGreat
open Go Go.RowKit
def lS(n:Nat)(F:CF)(l:List Int):Prop:=(∀x,x∈l->0<=x/\x<n/\F.u x.toNat=-1)/\l.Pairwise (fun x y=>dE n F x<dE n F y)
theorem CJ(n:Nat)(F:CF)(x:Int):Aw n F x=true↔0<=x/\x<n/\F.u x.toNat=-1:=by
 unfold Aw;simp only[Bool.and_eq_true,decide_eq_true_eq,beq_iff_eq];exact⟨fun h=>⟨h.1.1,h.1.2,h.2⟩,fun h=>⟨⟨h.1,h.2.1⟩,h.2.2⟩⟩
theorem mV{l:List Int}{i:Nat}(h:i<l.length):l.getD i 0=l[i]:=by simp[φ,h]
theorem Ii(n:Nat)(S:CS)(l:List Int):Ot n S l=true↔lS n S.f l:=by
 unfold Ot wD rowOk;simp only[YU,XL];rw[List.all_eq_true];simp only[List.mem_range,Bool.and_eq_true,Bool.or_eq_true,beq_iff_eq,decide_eq_true_eq];constructor
 ·intro h;refine⟨fun x hx=>?_,?_⟩
  ·obtain⟨i,hi,rfl⟩:=List.getElem_of_mem hx;have:=(h i hi).1;rw[mV hi]at this;exact(CJ n S.f _).1 this
  ·rw[List.pairwise_iff_getElem];have key:∀ (d i:Nat) (hi:i<l.length) (hj:i+d+1<l.length),dE n S.f l[i]<dE n S.f l[i+d+1]:=fun d=>by
    induction d with
    | zero=>
     intro i hi hj;rcases(h (i+1) hj).2 with h2|h2
     ·omega
     ·rw[Nat.add_sub_cancel,mV hi,mV hj]at h2;exact of_decide_eq_true h2
    | succ d ih=>
     intro i hi hj;have h1:=ih i hi ω;rcases(h (i+d+1+1) ω).2 with h2|h2
     ·omega
     ·rw[Nat.add_sub_cancel,mV (show i+d+1<l.length by omega),mV (show i+d+1+1<l.length by omega)]at h2;exact Int.lt_trans h1 (of_decide_eq_true h2)
   intro i j hi hj hij;have:=key (j-i-1) i hi ω;simpa[show i+(j-i-1)+1=j by omega]using this
 ·rintro⟨h1,h2⟩ i hi;refine⟨?_,?_⟩
  ·rw[mV hi];exact(CJ n S.f _).2 (h1 _ (List.getElem_mem hi))
  ·rcases Nat.eq_zero_or_pos i with h0|h0
   ·exact Or.inl h0
   ·rw[mV hi,mV (show i-1<l.length by omega)];exact Or.inr (decide_eq_true ((List.pairwise_iff_getElem.1 h2) (i-1) i ω hi ω))
theorem lS.nodup{n:Nat}{F:CF}{l:List Int}(h:lS n F l):l.Nodup:=h.2.imp (fun {a b} hab e=>by subst e;omega)
theorem any_false{A B:List Int}:A.any (fun x=>decide (x∈B))=false↔∀x,x∈A->x∉B:=by
 rw[List.any_eq_false];simp
theorem LD{n:Nat}{F:CF}{A B:List Int}{q:Nat}(f:oK n F)(hA:lS n F A)(hB:lS n F B)(hd:∀x,x∈A->x∉B):G n 0 0 0 0 ⟨F,A,B,[],[],q⟩:=by
 have d0:∀x,0<=dE n F x:=fun x=>by unfold dE;split<;>omega
 refine⟨f,fun x hx=>?_,?_,hA.2,fun x _=>by simpa using d0 x,hB.2,fun x _=>by simpa using d0 x,fun x hx=>(by cases hx),List.Pairwise.nil,fun x hx=>(by cases hx)⟩
 ·unfold CC.L at hx;simp only[List.append_nil,τ]at hx;rcases hx with hx|hx
  ·exact hA.1 x hx
  ·exact hB.1 x hx
 ·unfold CC.L;simp only[List.append_nil];rw[θ];exact⟨hA.nodup,hB.nodup,fun x hx y hy e=>by subst e;exact hd x hx hy⟩
def CC.done(C:CC):Prop:=C.A=[]/\C.B=[]/\C.N=[]
instance (C:CC):Decidable C.done:=by unfold CC.done;exact inferInstance
theorem step_done{lt:Int->Int->Bool}{n k:Nat}{C:CC}(h:C.done):Gs lt n k C=C:=by
 obtain⟨F,A,B,N,O,q⟩:=C;obtain⟨h1,h2,h3⟩:=h;simp only at h1 h2 h3;subst h1 h2 h3
 rfl
theorem Ab{lt:Int->Int->Bool}{n k:Nat}{C0:CC}(h:(gV lt n k C0).done):∀j,gV lt n (k+j) C0=gV lt n k C0
 | 0=>rfl
 | j+1=>by
  have ih:=Ab h j;rw[Nat.add_succ,gV,ih,step_done h]
theorem Tf{lt:Int->Int->Bool}{n k m:Nat}{C0:CC}(hk:(gV lt n k C0).done)(hm:(gV lt n m C0).done):gV lt n k C0=gV lt n m C0:=by
 rcases Nat.le_total k m with h|h
 ·have:=Ab hk (m-k);rw[show k+(m-k)=m by omega]at this;exact this.symm
 ·have:=Ab hm (k-m);rw[show m+(k-m)=k by omega]at this;exact this
def xy(lt:Int->Int->Bool)(n:Nat)(C0:CC)(F:CF)(O:List Int)(q:Nat):Prop:=∃k,gV lt n k C0=⟨F,[],[],[],O,q⟩
theorem xy.eq{lt:Int->Int->Bool}{n:Nat}{C0:CC}{F:CF}{O:List Int}{q:Nat}(h:xy lt n C0 F O q){m:Nat}(hm:(gV lt n m C0).done):gV lt n m C0=⟨F,[],[],[],O,q⟩:=by
 obtain⟨k,hk⟩:=h;rw[←hk];exact Tf hm (by rw[hk];exact⟨rfl,rfl,rfl⟩)
structure FL(O:uT)(w:World)(bt ba lo n:Nat)(S:CS)(q:Nat):Prop where
 f:aY w bt ba lo n S
 l:O.at_ w q
 a:Apart O bt ba n S
 t:bt<w.heap.size
 ok:oK n S.f
theorem O0(O:uT)(bt ba lo n:Nat)(S:CS)(va vb:Value)(A B:List Int)(q:Nat)(w:World)(h:FL O w bt ba lo n S q)
  (ha:gI w (O.wr++ba::S.blk n) va A) (hb:gI w (O.wr++ba::S.blk n) vb B) (hA:lS n S.f A) (hB:lS n S.f B) (hd:∀x,x∈A->x∉B) (hq:q<=900000) (hdA:∀x,x∈A->O.dom x) (hdB:∀x,x∈B->O.dom x) :
  Calls Tryz.prog 194 #[.pointer (some ⟨bt,0,none⟩),.iface O.ty (.pointer (some ⟨O.p,0,none⟩)),va,vb] w fun e w'=>
   ∃S' vo X q',e=.returned (.tuple #[vo,.bool true])/\FL O w' bt ba lo n S' q'/\xy O.lt n ⟨S.f,A,B,[],[],q⟩ S'.f X q'/\G n 0 0 0 0 ⟨S.f,A,B,[],[],q⟩/\bu w' w.heap.size vo X/\gI w' (O.wr++ba::S'.blk n) vo X/\aa (O.wr++ba::S.blk n) w w'/\(∀g,g∈S'.blk n->g∈S.blk n\/w.heap.size<=g)/\(∀g,vo.ownBlock=some g->g∉S'.blk n):=by
 have g0:=LD (q:=q) h.ok hA hB hd
 refine(Pn O bt ba lo n S va vb A B q w h.f h.l h.a h.t ha hb ((Ii n S A).2 hA) ((Ii n S B).2 hB) (any_false.2 hd) (g_ok O.asym (fun x hx=>by
  have e:CC.L ⟨S.f,A,B,[],[],q⟩=A++B:=by unfold CC.L;simp
  rw[e]at hx;rcases τ.1 hx with hx|hx
  ·exact hdA x hx
  ·exact hdB x hx) g0 rfl h.f.le hq)).mono ?_
 rintro e w' ⟨k,vn,va',XB,vo,rfl,hM,e1,e2,e3⟩;have gk:=(Hq (lt:=O.lt) g0 rfl k).1;generalize hC:gV O.lt n k ⟨S.f,A,B,[],[],q⟩=C at *;obtain⟨F,A1,B1,N1,O1,q1⟩:=C;simp only at e1 e2 e3;subst e1 e2 e3;obtain⟨S',hS,hF,hAp,h4,h5,h6⟩:=hM.vC;simp only at hS;subst hS;have I8:=hM.old _ hM.L8.2;have hlt2:=hF.MQ;have hblk:∀g,g∈S'.blk n->g∈S.blk n\/w.heap.size<=g:=fun g hg=>by
  rcases h4 g hg with h'|h'
  ·rcases τ.1 h' with h'|h'
   ·exact absurd (O.sub _ h') (hAp.blk g hg)
   ·rcases ρ.1 h' with rfl|h'
    ·have:=(hF.nX hg).1;omega
    ·exact Or.inl h'
  ·exact Or.inr ω
 refine⟨S',vo,O1,q1,rfl,⟨hF,hM.les,hAp,Nat.lt_of_lt_of_le h.t hM.upd.size,gk.f⟩,⟨k,hC⟩,g0,hM.out.mono ω,?_,hM.upd,hblk,h6⟩;obtain⟨a,cap,rfl,h1,h2,h3⟩:=hM.out.shape;refine⟨a,cap,rfl,h1,h2,fun j u hj=>?_⟩;obtain⟨g,off,rfl,hc⟩:=h3 j u hj;have hg:=hM.out.lt g rfl;refine⟨g,off,rfl,hg.2,fun hm=>?_,hc⟩;rcases τ.1 hm with hm|hm
 ·have:=hM.k0 _ (O.sub _ hm);omega
 ·rcases ρ.1 hm with rfl|hm
  ·omega
  ·exact h6 g rfl hm
structure Eb(lt:Int->Int->Bool)(n:Nat)(F:CF)(A B:List Int)(q:Nat)(F':CF)(O:List Int)(q':Nat):Prop where
 row:lS n F' O
 ok:oK n F'
 cnt:q'+O.length=q+(A.length+B.length)
 sub:∀x,x∈O->x∈A\/x∈B
 out:∀x:Nat,(x:Int)∉A->(x:Int)∉B->F'.u x=F.u x/\F'.k x=F.k x
 wt:wt n F' O=wt n F A+wt n F B
 nl:∀y p:Nat,y<n->F'.u y=p->F.u y=p\/(((y:Int)∈A\/(y:Int)∈B)/\((p:Int)∈A\/(p:Int)∈B)/\y≠p/\lt y p=false)
 ro:∀y:Nat,((y:Int)∈A\/(y:Int)∈B)->(y:Int)∈O\/∃p:Nat,p<n/\F'.u y=p
theorem carried{lt:Int->Int->Bool}(has:∀a b,lt a b=true->lt b a=false){n:Nat}{F:CF}{A B:List Int}{q:Nat}{F':CF}{O:List Int}{q':Nat}(g:G n 0 0 0 0 ⟨F,A,B,[],[],q⟩)(h:xy lt n ⟨F,A,B,[],[],q⟩ F' O q'):Eb lt n F A B q F' O q':=by
 obtain⟨k,hk⟩:=h;have g1:=Hq (lt:=lt) g rfl k;have r:=Jg has g rfl k;rw[hk]at g1 r;obtain⟨g1,_,g2⟩:=g1;have eL:CC.L ⟨F',[],[],[],O,q'⟩=O:=by unfold CC.L;simp
 have eL0:CC.L ⟨F,A,B,[],[],q⟩=A++B:=by unfold CC.L;simp
 have s:=r.sub;have o:=r.out;have w:=r.wt;rw[eL]at s w g2;rw[eL0]at s o w g2;refine⟨⟨fun x hx=>g1.rt x (by rw[eL];exact hx),g1.o1⟩,g1.f,by simpa using g2,fun x hx=>by simpa using s x hx,fun x h1 h2=>o x (by simp;exact⟨h1,h2⟩),?_,fun y p hy hu=>by have:=r.nl y p hy hu;rw[eL0]at this;simpa using this,fun y hy=>by have:=r.ro y (by rw[eL0];simpa using hy);rw[eL]at this;exact this⟩;rw[w];unfold wt;simp
end Go.Proofs.YtklibcncmbofpaaGreat
namespace Go.Proofs.YtklibcncmbofpaaGreat
def OL(l:List Int)(x y:Int):List Int:=l.map (fun z=>if z=x then y else z)
theorem oK.split{n:Nat}{S:CS}(h:oK n S.f){x:Nat}(hx:x<n)(hr:S.u x=-1):oK n (il S x).f:=by
 have nx:∀z,z<n->(x:Int)∉S.k z:=fun z hz hm=>by
  have:=(h.wy z hz _ hm).2.2;rw[π]at this;have e:S.f.u x=S.u x:=rfl;omega
 have uk:∀y z,y<n->z<n->(y:Int)∈S.k z->S.u y=z:=fun y z hy hz hm=>by
  have:=(h.wy z hz _ hm).2.2;rwa[π]at this
 refine⟨fun z hz y hy=>?_,fun z hz=>?_,fun y hy=>?_,fun z hz i w hw=>?_⟩
 ·show 0<=y/\y<n/\(if ((y.toNat:Nat):Int)∈S.k x then (-1:Int)else S.u y.toNat)=z
  have hy':y∈(if z=x then ([]:List Int)else S.k z):=hy
  by_cases e:z=x
  ·rw[if_pos e]at hy';cases hy'
  ·rw[if_neg e]at hy';obtain⟨h1,h2,h3⟩:=h.wy z hz y hy';refine⟨h1,h2,?_⟩;rw[if_neg (fun hm=>?_)]
   ·exact h3
   ·have:=uk y.toNat x ω hx hm;have e3:S.f.u y.toNat=S.u y.toNat:=rfl;omega
 ·show(if z=x then ([]:List Int)else S.k z).Nodup
  split
  ·exact List.nodup_nil
  ·exact h.nd z hz
 ·show(if (y:Int)∈S.k x then (-1:Int)else S.u y)=-1\/∃p:Nat,p<n/\(if (y:Int)∈S.k x then (-1:Int)else S.u y)=p/\(y:Int)∈(if p=x then ([]:List Int)else S.k p)
  by_cases hm:(y:Int)∈S.k x
  ·rw[if_pos hm];exact Or.inl rfl
  ·rw[if_neg hm];rcases h.up y hy with h1|⟨p,hp,h1,h2⟩
   ·exact Or.inl h1
   ·refine Or.inr ⟨p,hp,h1,?_⟩;rw[if_neg (fun e=>by subst e;exact hm h2)];exact h2
 ·have hw':(if z=x then ([]:List Int)else S.k z)[i]?=some w:=hw
  show(if w.toNat=x then ([]:List Int)else S.k w.toNat).length=i
  by_cases e:z=x
  ·rw[if_pos e]at hw';simp at hw'
  ·rw[if_neg e]at hw';have hm:=List.mem_of_getElem? hw';have hr:=h.wy z hz w hm;rw[if_neg (fun e2=>nx z hz (by rw[←e2,show((w.toNat:Nat):Int)=w by omega];exact hm))];exact h.yu z hz i w hw'
theorem zx{l:List Int}(h:l.Nodup)(x y:Int)(hx:x∈l):OL l x y=setAt l x y:=by
 obtain⟨i,hi,he,hxi⟩:=wu l x hx;unfold OL setAt;rw[he,π];apply List.ext_getElem σ;intro j h1 h2;rw[List.getElem_map,List.getElem_set];have hil:l[i]=x:=(List.getElem?_eq_some_iff.1 hxi).2
 by_cases e:i=j
 ·subst e;rw[if_pos hil,if_pos rfl]
 ·rw[if_neg e,if_neg (fun e2=>e ?_)];have hj:j<l.length:=by simpa using h1
  have hp:=List.pairwise_iff_getElem.1 (List.nodup_iff_pairwise_ne.1 h);rcases Nat.lt_trichotomy i j with h'|h'|h'
  ·exact absurd (hil.trans e2.symm) (hp i j hi hj h')
  ·exact h'
  ·exact absurd (e2.trans hil.symm) (hp j i hj hi h')
theorem pO{l:List Int}(h:l.Nodup){x y z:Int}(hx:x∈l):z∈setAt l x y↔z=y\/(z∈l/\z≠x):=by
 rw[←zx h x y hx];unfold OL;rw[List.mem_map];constructor
 ·rintro⟨w,hw,rfl⟩
  by_cases e:w=x
  ·rw[if_pos e];exact Or.inl rfl
  ·rw[if_neg e];exact Or.inr ⟨hw,e⟩
 ·rintro(rfl|⟨h1,h2⟩)
  ·exact⟨x,hx,by rw[if_pos rfl]⟩
  ·exact⟨z,h1,by rw[if_neg h2]⟩
theorem Ih{l:List Int}(h:l.Nodup){x y z:Int}(hx:x∈l){i:Nat}(hz:(setAt l x y)[i]?=some z):(l[i]?=some x/\z=y)\/(l[i]?=some z/\z≠x):=by
 rw[←zx h x y hx]at hz;unfold OL at hz;rw[List.getElem?_map]at hz;cases hq:l[i]? with
 | none=>rw[hq]at hz;cases hz
 | some w=>
  rw[hq]at hz;simp at hz
  by_cases e:w=x
  ·rw[if_pos e]at hz;subst e;exact Or.inl ⟨rfl,hz.symm⟩
  ·rw[if_neg e]at hz;subst hz;exact Or.inr ⟨rfl,e⟩
theorem yG{l:List Int}(h:l.Nodup){x y:Int}(hx:x∈l)(hy:y∉l):(setAt l x y).Nodup:=by
 rw[←zx h x y hx];unfold OL;rw[List.nodup_iff_pairwise_ne,List.pairwise_map];refine(List.nodup_iff_pairwise_ne.1 h).imp_of_mem (fun {a b} ha hb hab=>?_)
 by_cases e1:a=x
 ·rw[if_pos e1]
  by_cases e2:b=x
  ·exact absurd (e1.trans e2.symm) hab
  ·rw[if_neg e2];intro e;subst e;exact hy hb
 ·rw[if_neg e1]
  by_cases e2:b=x
  ·rw[if_pos e2];intro e;subst e;exact hy ha
  ·rw[if_neg e2];exact hab
theorem oK.lift{n:Nat}{S:CS}(h:oK n S.f){x p:Nat}{above:Int}(ok:zP n S x p above):oK n (iw S x p above).f:=by
 have hx:=ok.hx;have hp:=ok.hp;have hne:=ok.ne;have uk:∀y z:Nat,y<n->z<n->(y:Int)∈S.k z->S.u y=z:=fun y z hy hz hm=>by
  have:=(h.wy z hz _ hm).2.2;rwa[π]at this
 have rg:∀z,z<n->∀w,w∈S.k z->∃y:Nat,w=y/\y<n/\S.u y=z:=fun z hz w hw=>by
  obtain⟨h1,h2,h3⟩:=h.wy z hz w hw;exact⟨w.toNat,ω,ω,h3⟩
 have dg:∀y z:Nat,z<n->(y:Int)∈S.k z->(S.k y).length<(S.k z).length:=fun y z hz hm=>by
  obtain⟨i,hi,he⟩:=List.getElem_of_mem hm;have hge:(S.k z)[i]?=some (y:Int):=by rw[ε hi,he]
  have:=h.yu z hz i (y:Int) hge;rw[π]at this;have abq:(S.k y).length=i:=this;have hi':i<(S.k z).length:=hi;omega
 have pk:(p:Int)∉S.k p:=h.self hp;have px:(p:Int)∉S.k x:=fun hm=>by
  have h1:=dg p x hx hm;have h2:=dg x p hp ok.mem;omega
 have ux:S.u x=p:=ok.up;have up:S.u p=above:=ok.ab;have nd:=h.nd p hp;have top:∀q:Nat,(q:Int)=above->q<n/\q≠x/\q≠p/\(p:Int)∈S.k q:=fun q hq=>by
  rcases ok.top with e|⟨q',e,h1,h2,h3,h4⟩
  ·omega
  ·obtain rfl:q=q':=ω;exact⟨h1,h2,h3,h4⟩
 have K:∀z:Nat,(iw S x p above).f.k z=if z=x then setAt (S.k p) x p else if z=p then S.k x else if (z:Int)=above then setAt (S.k z) p x else S.k z:=fun z=>rfl;have U:∀z:Nat,(iw S x p above).f.u z=if z=x then above else if (z:Int)∈S.k x then (p:Int)else if (z:Int)∈setAt (S.k p) x p then (x:Int)else S.u z:=fun z=>rfl;have mo:∀z:Int,z∈setAt (S.k p) x p↔z=p\/(z∈S.k p/\z≠x):=fun z=>pO nd ok.mem;have D:∀y:Nat,((iw S x p above).f.k y).length=if y=x then (S.k p).length else if y=p then (S.k x).length else (S.k y).length:=fun y=>by
  rw[K]
  split
  ·rw[kS]
  ·split
   ·rfl
   ·split
    ·rw[kS]
    ·rfl
 have U1:∀y:Nat,y<n->(y:Int)∈S.k x->(iw S x p above).f.u y=p:=fun y hy hm=>by
  rw[U,if_neg (fun e=>by subst e;exact h.self hx hm),if_pos hm]
 have U2:∀y:Nat,y<n->(y:Int)∈setAt (S.k p) x p->(iw S x p above).f.u y=x:=fun y hy hm=>by
  rcases(mo y).1 hm with e|⟨h1,h2⟩
  ·obtain rfl:y=p:=ω;rw[U,if_neg (Ne.symm hne),if_neg px,if_pos hm]
  ·rw[U,if_neg (fun e=>h2 (by rw[e])),if_neg (fun hm2=>by have:=uk y x hy hx hm2;have:=uk y p hy hp h1;omega),if_pos hm]
 have U3:∀y:Nat,y<n->y≠x->y≠p->S.u y≠x->S.u y≠p->(iw S x p above).f.u y=S.u y:=fun y hy h1 h2 h3 h4=>by
  rw[U,if_neg h1,if_neg (fun hm=>h3 (uk y x hy hx hm)),if_neg (fun hm=>by
   rcases(mo y).1 hm with e|⟨h5,_⟩
   ·omega
   ·exact h4 (uk y p hy hp h5))]
 refine⟨fun z hz w hw=>?_,fun z hz=>?_,fun y hy=>?_,fun z hz i w hw=>?_⟩
 ·rw[K]at hw
  split at hw
  ·rename_i e;subst e
   have NN:=hw;rcases(mo w).1 hw with rfl|⟨h1,h2⟩
   ·exact⟨ω,ω,by rw[π];exact U2 p hp NN⟩
   ·obtain⟨y,rfl,hy,_⟩:=rg p hp w h1;exact⟨ω,ω,by rw[π];exact U2 y hy NN⟩
  ·rename_i hzx
   split at hw
   ·rename_i e;subst e
    obtain⟨y,rfl,hy,_⟩:=rg x hx w hw;exact⟨ω,ω,by rw[π];exact U1 y hy hw⟩
   ·rename_i hzp
    split at hw
    ·rename_i e
     obtain⟨_,_,_,hm⟩:=top z e;rcases(pO (h.nd z hz) hm).1 hw with rfl|⟨h1,h2⟩
     ·exact⟨ω,ω,by rw[π,U,if_pos rfl];exact e.symm⟩
     ·obtain⟨y,rfl,hy,hu⟩:=rg z hz w h1;have hyx:y≠x:=fun e=>by subst e;omega
      exact⟨ω,ω,by rw[π,U3 y hy hyx (fun e=>h2 (by rw[e])) ω ω];exact hu⟩
    ·rename_i hza
     obtain⟨y,rfl,hy,hu⟩:=rg z hz w hw;have hyx:y≠x:=fun e=>by subst e;omega
     have hyp:y≠p:=fun e=>by subst e;omega
     exact⟨ω,ω,by rw[π,U3 y hy hyx hyp ω ω];exact hu⟩
 ·rw[K]
  split
  ·exact yG nd ok.mem pk
  ·split
   ·exact h.nd x hx
   ·split
    ·rename_i e
     obtain⟨h1,h2,h3,hm⟩:=top z e;exact yG (h.nd z hz) hm (fun hm2=>by have:=uk x z hx hz hm2;omega)
    ·exact h.nd z hz
 ·by_cases hyx:y=x
  ·subst hyx;rw[U,if_pos rfl];rcases ok.top with e|⟨q,e,h1,h2,h3,h4⟩
   ·exact Or.inl e
   ·refine Or.inr ⟨q,h1,e,?_⟩;rw[K,if_neg h2,if_neg h3,if_pos e.symm];exact(pO (h.nd q h1) h4).2 (Or.inl rfl)
  ·by_cases hm1:(y:Int)∈S.k x
   ·refine Or.inr ⟨p,hp,U1 y hy hm1,?_⟩;rw[K,if_neg (Ne.symm hne),if_pos rfl];exact hm1
   ·by_cases hm2:(y:Int)∈setAt (S.k p) x p
    ·refine Or.inr ⟨x,hx,U2 y hy hm2,?_⟩;rw[K,if_pos rfl];exact hm2
    ·have e:(iw S x p above).f.u y=S.u y:=by rw[U,if_neg hyx,if_neg hm1,if_neg hm2]
     rw[e];rcases h.up y hy with h1|⟨r,hr,h1,h2⟩
     ·exact Or.inl h1
     ·refine Or.inr ⟨r,hr,h1,?_⟩;have hrx:r≠x:=fun e=>by subst e;exact hm1 h2
      have hrp:r≠p:=fun e=>by subst e;exact hm2 ((mo y).2 (Or.inr ⟨h2,fun e=>hyx ω⟩))
      rw[K,if_neg hrx,if_neg hrp]
      split
      ·rename_i e
       obtain⟨_,_,_,hm⟩:=top r e;exact(pO (h.nd r hr) hm).2 (Or.inr ⟨h2,fun e2=>hm2 ((mo y).2 (Or.inl e2))⟩)
      ·exact h2
 ·have other:∀ (z:Nat) (w:Int),z<n->z≠x->(S.k z)[i]?=some w->w≠p->w≠x->((iw S x p above).f.k w.toNat).length=i:=fun z w hz _ hw h1 h2=>by
   obtain⟨y,rfl,hy,_⟩:=rg z hz w (List.mem_of_getElem? hw);rw[π,D,if_neg (fun e=>h2 (by rw[e])),if_neg (fun e=>h1 (by rw[e]))];have:=h.yu z hz i (y:Int) hw;rwa[π]at this
  have xi:∀i,(S.k p)[i]?=some (x:Int)->(S.k x).length=i:=fun i hi=>by
   have:=h.yu p hp i (x:Int) hi;rwa[π]at this
  rw[K]at hw
  split at hw
  ·rename_i e;subst e
   rcases Ih nd ok.mem hw with⟨h1,rfl⟩|⟨h1,h2⟩
   ·rw[π,D,if_neg (Ne.symm hne),if_pos rfl];exact xi i h1
   ·exact other p w hp (Ne.symm hne) h1 (fun e=>pk (by rw[←e];exact List.mem_of_getElem? h1)) h2
  ·rename_i hzx
   split at hw
   ·rename_i e;subst e
    have hm:=List.mem_of_getElem? hw;obtain⟨y,rfl,hy,_⟩:=rg x hx w hm;rw[π,D,if_neg (fun e=>by subst e;exact h.self hx hm),if_neg (fun e=>by subst e;exact px hm)];have:=h.yu x hx i (y:Int) hw;rwa[π]at this
   ·rename_i hzp
    split at hw
    ·rename_i e
     obtain⟨_,_,_,hm⟩:=top z e;rcases Ih (h.nd z hz) hm hw with⟨h1,rfl⟩|⟨h1,h2⟩
     ·rw[π,D,if_pos rfl];have:=h.yu z hz i (p:Int) h1;rwa[π]at this
     ·exact other z w hz hzx h1 h2 (fun e2=>by have:=uk x z hx hz (by rw[←e2];exact List.mem_of_getElem? h1);omega)
    ·rename_i hza
     have hm:=List.mem_of_getElem? hw;exact other z w hz hzx hw (fun e2=>by have:=uk p z hp hz (by rw[←e2];exact hm);omega) (fun e2=>by have:=uk x z hx hz (by rw[←e2];exact hm);omega)
theorem Mq{n:Nat}{S:CS}(h:oK n S.f){x:Nat}(hx:x<n){p:Nat}(hp:p<n)(hu:S.u x=p)(hm:(x:Int)∈S.k p):zP n S x p (S.u p):=by
 have dg:∀y z:Nat,z<n->(y:Int)∈S.k z->(S.k y).length<(S.k z).length:=fun y z hz hm=>by
  obtain⟨i,hi,he⟩:=List.getElem_of_mem hm;have hge:(S.k z)[i]?=some (y:Int):=by rw[ε hi,he]
  have:=h.yu z hz i (y:Int) hge;rw[π]at this;have abq:(S.k y).length=i:=this;omega
 refine⟨hx,hp,fun e=>by subst e;exact h.self hx hm,hu,rfl,hm,fun k hk=>by have:=h.wy x hx k hk;omega,fun k hk=>by have:=h.wy p hp k hk;omega,?_⟩;rcases h.up p hp with h1|⟨q,hq,h1,h2⟩
 ·exact Or.inl h1
 ·have d1:=dg x p hp hm;have d2:=dg p q hq h2;exact Or.inr ⟨q,h1,hq,fun e=>by subst e;omega,fun e=>by subst e;omega,h2⟩
theorem R6(S:CS)(x p:Nat)(above:Int)(y:Nat):((iw S x p above).k y).length=if y=x then (S.k p).length else if y=p then (S.k x).length else (S.k y).length:=by
 show(if y=x then setAt (S.k p) x p else if y=p then S.k x else if (y:Int)=above then setAt (S.k y) p x else S.k y).length=_
 split
 ·rw[kS]
 ·split
  ·rfl
  ·split
   ·rw[kS]
   ·rfl
structure FH(n:Nat)(F:CF)(bN:Nat->Int)(L:Nat->Nat->Prop):Prop where
 f:oK n F
 home:∀y p:Nat,y<n->F.u y=p->bN y=bN p/\0<bN y
 ord:∀y p:Nat,y<n->F.u y=p->L p y
 alone:∀y:Nat,y<n->¬0<bN y->F.u y=-1/\F.k y=[]
theorem oK.above{n:Nat}{F:CF}(h:oK n F){y p:Nat}(hy:y<n)(hu:F.u y=p):p<n/\(y:Int)∈F.k p:=by
 rcases h.up y hy with h1|⟨q,hq,h1,h2⟩
 ·omega
 ·obtain rfl:q=p:=ω;exact⟨hq,h2⟩
theorem oK.below{n:Nat}{F:CF}(h:oK n F){p:Nat}(hp:p<n){z:Int}(hz:z∈F.k p):∃y:Nat,z=y/\y<n/\F.u y=p/\(F.k y).length<(F.k p).length:=by
 obtain⟨r1,r2,r3⟩:=h.wy p hp z hz;obtain⟨i,hi,he⟩:=List.getElem_of_mem hz;have hc:=h.yu p hp i z (by rw[ε hi,he]);obtain⟨y,rfl⟩:=Int.eq_ofNat_of_zero_le r1;rw[π]at r3 hc;exact⟨y,rfl,ω,r3,ω⟩
theorem oK.OV{n:Nat}{F:CF}(h:oK n F){y p:Nat}(hy:y<n)(hu:F.u y=p):(F.k y).length<(F.k p).length:=by
 obtain⟨h1,h2⟩:=h.above hy hu;obtain⟨z,e,_,_,hd⟩:=h.below h1 h2;obtain rfl:y=z:=ω;exact hd
theorem lS.ext{n:Nat}{F F':CF}{l:List Int}(h:lS n F l)(e:∀x,x∈l->F'.u x.toNat=F.u x.toNat/\F'.k x.toNat=F.k x.toNat):lS n F' l:=by
 refine⟨fun x hx=>?_,h.2.imp_of_mem (fun {a b} ha hb hab=>?_)⟩
 ·have:=h.1 x hx;exact⟨this.1,this.2.1,by rw[(e x hx).1];exact this.2.2⟩
 ·unfold dE at hab⊢;rw[(e a ha).2,(e b hb).2];exact hab
theorem Xb{n:Nat}{F F':CF}{x:Int}(e:F'.k x.toNat=F.k x.toNat):dE n F' x=dE n F x:=by unfold dE;rw[e]
theorem TC{n:Nat}{F:CF}{bN:Nat->Int}{L:Nat->Nat->Prop}{lt:Int->Int->Bool}{h:Int}{A0 B0:List Int}{q:Nat}{F':CF}{O:List Int}{q':Nat}(H:FH n F bN L)
  (hL:∀y p:Nat,y<n->p<n->bN y=h->bN p=h->y≠p->lt y p=false->L p y) (h1:1<=h)
  (m:∀y:Nat,y<n/\F.u y=-1/\bN y=h↔(y:Int)∈A0\/(y:Int)∈B0) (C:Eb lt n F A0 B0 q F' O q') :
  FH n F' bN L/\(∀y:Nat,(y:Int)∈O↔y<n/\F'.u y=-1/\bN y=h)/\(∀y:Nat,y<n->bN y≠h->F'.u y=F.u y/\F'.k y=F.k y):=by
 have far:∀y:Nat,y<n->bN y≠h->F'.u y=F.u y/\F'.k y=F.k y:=fun y hy hh=>C.out y (fun hm=>hh ((m y).2 (Or.inl hm)).2.2) (fun hm=>hh ((m y).2 (Or.inr hm)).2.2);have key:∀y p:Nat,y<n->F'.u y=p->F.u y=p\/(y<n/\p<n/\bN y=h/\bN p=h/\y≠p/\lt y p=false):=fun y p hy hu=>by
  rcases C.nl y p hy hu with e|⟨k1,k2,k3,k4⟩
  ·exact Or.inl e
  ·have a1:=(m y).2 k1;have a2:=(m p).2 k2;exact Or.inr ⟨hy,a2.1,a1.2.2,a2.2.2,k3,k4⟩
 refine⟨⟨C.ok,fun y p hy hu=>?_,fun y p hy hu=>?_,fun y hy hh=>?_⟩,fun y=>⟨fun hm=>?_,fun hm=>?_⟩,far⟩
 ·rcases key y p hy hu with e|⟨_,_,k1,k2,_,_⟩
  ·exact H.home y p hy e
  ·rw[k1,k2];exact⟨rfl,ω⟩
 ·rcases key y p hy hu with e|⟨k0,kp,k1,k2,k3,k4⟩
  ·exact H.ord y p hy e
  ·exact hL y p k0 kp k1 k2 k3 k4
 ·have:=far y hy ω;rw[this.1,this.2];exact H.alone y hy hh
 ·have r:=C.row.1 _ hm;have a:=(m y).2 (C.sub _ hm);exact⟨a.1,by simpa using r.2.2,a.2.2⟩
 ·obtain⟨hy,hu,hh⟩:=hm
  by_cases hAB:(y:Int)∈A0\/(y:Int)∈B0
  ·rcases C.ro y hAB with h2|⟨p,hp,h2⟩
   ·exact h2
   ·omega
  ·have h2:=C.out y (fun h=>hAB (Or.inl h)) (fun h=>hAB (Or.inr h));exact absurd ((m y).1 ⟨hy,by rw[←h2.1];exact hu,hh⟩) hAB
structure BG where
 F:CF
 R:Nat->List Int
structure RH(n:Nat)(G:BG)(bN:Nat->Int):Prop where
 row:∀h,lS n G.F (G.R h)
 mem:∀h y:Nat,(y:Int)∈G.R h↔1<=h/\y<n/\G.F.u y=-1/\bN y=h
def BG.none:BG:=⟨CS.none.f,fun _=>[]⟩
def dA(R:Nat->List Int)(h:Nat)(l:List Int):Nat->List Int:=fun k=>if k=h then l else R k
def lu(lt:Int->Int->Bool)(n:Nat)(F:CF)(A B:List Int):CC:=gV lt n (n+1) ⟨F,A,B,[],[],0⟩
theorem IJ{lt:Int->Int->Bool}{n:Nat}{F:CF}{A B:List Int}(g:G n 0 0 0 0 ⟨F,A,B,[],[],0⟩)(has:∀a b,lt a b=true->lt b a=false)(hn:n<=65536):(lu lt n F A B).done:=by
 have r:=g_ok (dom:=fun _=>True) has (fun x hx=>trivial) g rfl hn (Nat.zero_le _) (n+1);unfold lu CC.done;refine⟨?_,?_,?_⟩
 all_goals
  apply Classical.byContradiction;intro hne;have:=r.ends (by first|exact Or.inl hne|exact Or.inr (Or.inl hne)|exact Or.inr (Or.inr hne));omega
theorem ZW{lt:Int->Int->Bool}{n:Nat}{F:CF}{A B:List Int}{F':CF}{O:List Int}{q:Nat}(g:G n 0 0 0 0 ⟨F,A,B,[],[],0⟩)(has:∀a b,lt a b=true->lt b a=false)(hn:n<=65536)(h:xy lt n ⟨F,A,B,[],[],0⟩ F' O q) :
  (lu lt n F A B).F=F'/\(lu lt n F A B).O=O/\(lu lt n F A B).q=q:=by
 have:=h.eq (m:=n+1) (IJ g has hn);unfold lu;rw[this];exact⟨rfl,rfl,rfl⟩
theorem ZN{lt:Int->Int->Bool}{n:Nat}{F:CF}{A B:List Int}(g:G n 0 0 0 0 ⟨F,A,B,[],[],0⟩)(has:∀a b,lt a b=true->lt b a=false)(hn:n<=65536):Eb lt n F A B 0 (lu lt n F A B).F (lu lt n F A B).O (lu lt n F A B).q:=by
 refine carried has g ⟨n+1,?_⟩;obtain⟨h1,h2,h3⟩:=IJ g has hn;unfold lu at *;generalize gV lt n (n+1) ⟨F,A,B,[],[],0⟩=C at *;obtain⟨F1,A1,B1,N1,O1,q1⟩:=C;simp only at h1 h2 h3;subst h1 h2 h3
 rfl
def yQ(lt:Int->Int->Bool)(n h:Nat)(l:List Int)(G:BG):BG:=⟨(lu lt n G.F (G.R h) l).F,dA G.R h (lu lt n G.F (G.R h) l).O⟩
theorem Dt{n:Nat}{G:BG}{bN:Nat->Int}{L:Nat->Nat->Prop}{lt:Int->Int->Bool}{h:Nat}{l:List Int}(H:FH n G.F bN L)(hn:n<=65536)(has:∀a b,lt a b=true->lt b a=false)
  (hL:∀y p:Nat,y<n->p<n->bN y=h->bN p=h->y≠p->lt y p=false->L p y) (h1:1<=h)
  (hrow:∀k,lS n G.F (G.R k)) (hmem:∀k y:Nat,k≠h->((y:Int)∈G.R k↔1<=k/\y<n/\G.F.u y=-1/\bN y=k))
  (m:∀y:Nat,y<n/\G.F.u y=-1/\bN y=h↔(y:Int)∈G.R h\/(y:Int)∈l) (hl:lS n G.F l) (hd:∀x,x∈G.R h->x∉l) :
  FH n (yQ lt n h l G).F bN L/\RH n (yQ lt n h l G) bN/\(∀k,wt n (yQ lt n h l G).F ((yQ lt n h l G).R k)=if k=h then wt n G.F (G.R h)+wt n G.F l else wt n G.F (G.R k))/\
   (lu lt n G.F (G.R h) l).q+((yQ lt n h l G).R h).length=(G.R h).length+l.length:=by
 have g:=LD (q:=0) H.f (hrow h) hl hd;have C:=ZN g has hn;obtain⟨h2,h3,h4⟩:=TC H hL ω m C;have far:∀k:Nat,k≠h->∀x,x∈G.R k->(lu lt n G.F (G.R h) l).F.u x.toNat=G.F.u x.toNat/\(lu lt n G.F (G.R h) l).F.k x.toNat=G.F.k x.toNat:=fun k hk x hx=>by
  have hr:=(hrow k).1 x hx;have:=(hmem k x.toNat hk).1 (by rw[show((x.toNat:Nat):Int)=x by omega];exact hx);exact h4 x.toNat this.2.1 ω
 unfold yQ;refine⟨h2,⟨fun k=>?_,fun k y=>?_⟩,fun k=>?_,?_⟩
 ·simp only[dA]
  split
  ·exact C.row
  ·rename_i hk
   exact(hrow k).ext (far k hk)
 ·simp only[dA]
  split
  ·rename_i hk
   subst hk;rw[h3 y];exact⟨fun a=>⟨h1,a⟩,fun a=>a.2⟩
  ·rename_i hk
   rw[hmem k y hk];constructor
   ·rintro⟨a1,a2,a3,a4⟩;exact⟨a1,a2,by rw[(h4 y a2 ω).1];exact a3,a4⟩
   ·rintro⟨a1,a2,a3,a4⟩;exact⟨a1,a2,by rw[←(h4 y a2 ω).1];exact a3,a4⟩
 ·simp only[dA]
  split
  ·exact C.wt
  ·rename_i hk
   exact Aq (fun x hx=>Xb (far k hk x hx).2)
 ·simp only[dA,if_true];have:=C.cnt;omega
theorem Ms:∀d:Nat,((List.range d).map (fun i=>2 ^ i)).sum+1=2 ^ d
 | 0=>rfl
 | d+1=>by
  have ih:=Ms d;rw[List.range_succ,List.map_append,List.sum_append,Nat.pow_succ];simp only[List.map_cons,List.map_nil,List.sum_cons,List.sum_nil];omega
def fM(F:CF)(x:Nat):CF:=⟨fun y=>if y=x then []else F.k y,fun y=>if (y:Int)∈F.k x then -1 else F.u y⟩
theorem zq(S:CS)(x:Nat):(il S x).f=fM S.f x:=rfl
theorem Vp{n:Nat}{F:CF}(ok:oK n F){x:Nat}(hx:x<n){F':CF}(e:∀z,z∈F.k x->dE n F' z=dE n F z):wt n F' (F.k x)+1=2 ^ (F.k x).length:=by
 rw[←Ms]
 congr 1
 rw[Aq e];unfold wt
 congr 1
 apply List.ext_getElem σ;intro i h1 h2;rw[List.getElem_map,List.getElem_map,List.getElem_range];have hi:i<(F.k x).length:=by simpa using h1
 have hm:(F.k x)[i]∈F.k x:=List.getElem_mem hi;have hc:=ok.yu x hx i _ (ε hi);have hr:=ok.wy x hx _ hm;unfold dE;rw[if_pos ⟨hr.1,hr.2.1⟩,hc];simp
theorem Sg{n:Nat}{F:CF}(ok:oK n F){x:Nat}(hx:x<n){F':CF}(e:∀z,z∈F.k x->dE n F' z=dE n F z)(u:∀z,z∈F.k x->F'.u z.toNat=-1):lS n F' (F.k x):=by
 refine⟨fun z hz=>⟨(ok.wy x hx z hz).1,(ok.wy x hx z hz).2.1,u z hz⟩,?_⟩;rw[List.pairwise_iff_getElem];intro i j hi hj hij;have d:∀i (hi:i<(F.k x).length),dE n F' (F.k x)[i]=i:=fun i hi=>by
  have hm:(F.k x)[i]∈F.k x:=List.getElem_mem hi;have hc:=ok.yu x hx i _ (ε hi);have hr:=ok.wy x hx _ hm;rw[e _ hm];unfold dE;rw[if_pos ⟨hr.1,hr.2.1⟩,hc]
 rw[d i hi,d j hj];omega
theorem oK.Ty{n:Nat}{F:CF}(h:oK n F){x:Nat}(hx:x<n)(hr:F.u x=-1):oK n (fM F x):=by
 have:=oK.split (n:=n) (S:=⟨fun _=>.slice none 0 0,F.k,F.u⟩) h hx hr;exact this
structure Dk(A:NS)(G:BG):Prop where
 fh:FH A.cs.length G.F (fun y=>(A.c y).i) (bZ A)
 rh:RH A.cs.length G (fun y=>(A.c y).i)
 w:∀h:Nat,1<=h->wt A.cs.length G.F (G.R h)=dO A h
structure Fx(A:NS)(G:BG)(x:Nat):Prop where
 fh:FH A.cs.length G.F (fun y=>(A.c y).i) (fun p y=>y≠x->p≠x->bZ A p y)
 two:∀p c:Nat,c<A.cs.length->G.F.u x=p->G.F.u c=x->bZ A p c
 rh:RH A.cs.length G (fun y=>(A.c y).i)
 w:∀h:Nat,1<=h->wt A.cs.length G.F (G.R h)=dO A h
theorem Dk.x{A:NS}{G:BG}(h:Dk A G){x:Nat}(hx:x<A.cs.length):Fx A G x:=
 ⟨⟨h.fh.f,h.fh.home,fun y p hy hu _ _=>h.fh.ord y p hy hu,h.fh.alone⟩,fun p c hc h1 h2=>bV (h.fh.ord x p hx h1) (h.fh.ord c x hc h2),h.rh,h.w⟩
def rZ(F:CF)(x p:Nat)(above:Int):CF:=
  ⟨fun y=>if y=x then setAt (F.k p) x p else if y=p then F.k x else if (y:Int)=above then setAt (F.k y) p x else F.k y,
   fun y=>if y=x then above else if (y:Int)∈F.k x then p else if (y:Int)∈setAt (F.k p) x p then x else F.u y⟩
theorem Z9(S:CS)(x p:Nat)(above:Int):(iw S x p above).f=rZ S.f x p above:=rfl
def Ki(x p:Nat)(above:Int)(z:Int):Int:=if z=p/\above=-1 then (x:Int)else z
def rG(G:BG)(x p:Nat):BG:=⟨rZ G.F x p (G.F.u p),fun k=>(G.R k).map (Ki x p (G.F.u p))⟩
section
variable {n:Nat}{F:CF}
theorem Tv(h:oK n F){x p:Nat}(hx:x<n)(hu:F.u x=p):zP n ⟨fun _=>.slice none 0 0,F.k,F.u⟩ x p (F.u p):=by
 obtain⟨hp,hm⟩:=h.above hx hu;exact Mq (S:=⟨fun _=>.slice none 0 0,F.k,F.u⟩) h hx hp hu hm
theorem QL(h:oK n F){x p:Nat}(hx:x<n)(hu:F.u x=p):oK n (rZ F x p (F.u p)):=
 oK.lift (S:=⟨fun _=>.slice none 0 0,F.k,F.u⟩) h (Tv h hx hu)
theorem uJ(x p:Nat)(above:Int)(y:Nat):((rZ F x p above).k y).length=if y=x then (F.k p).length else if y=p then (F.k x).length else (F.k y).length:=
 R6 ⟨fun _=>.slice none 0 0,F.k,F.u⟩ x p above y
theorem wY(h:oK n F){x y:Nat}(hx:x<n)(hy:y<n):(y:Int)∈F.k x↔F.u y=x:=by
 constructor
 ·intro hm;obtain⟨z,e,_,h2,_⟩:=h.below hx hm;obtain rfl:y=z:=ω;exact h2
 ·intro hu;exact(h.above hy hu).2
theorem Ee(h:oK n F){x p:Nat}(hx:x<n)(hu:F.u x=p){y:Nat}(hy:y<n) :
  (rZ F x p (F.u p)).u y=if y=x then F.u p else if F.u y=x then (p:Int)else if y=p\/F.u y=p then (x:Int)else F.u y:=by
 obtain⟨hp,hm⟩:=h.above hx hu
 show(if y=x then F.u p else if (y:Int)∈F.k x then (p:Int)else if (y:Int)∈setAt (F.k p) x p then (x:Int)else F.u y)=_
 by_cases e:y=x
 ·rw[if_pos e,if_pos e]
 ·rw[if_neg e,if_neg e]
  by_cases e2:F.u y=x
  ·rw[if_pos ((wY h hx hy).2 e2),if_pos e2]
  ·rw[if_neg (fun hm2=>e2 ((wY h hx hy).1 hm2)),if_neg e2];have e3:(y:Int)∈setAt (F.k p) x p↔(y=p\/F.u y=p):=by
    rw[pO (h.nd p hp) hm,wY h hp hy];constructor
    ·rintro(h1|⟨h1,_⟩)
     ·exact Or.inl ω
     ·exact Or.inr h1
    ·rintro(h1|h1)
     ·exact Or.inl ω
     ·exact Or.inr ⟨h1,ω⟩
   by_cases e4:y=p\/F.u y=p
   ·rw[if_pos (e3.2 e4),if_pos e4]
   ·rw[if_neg (fun hm2=>e4 (e3.1 hm2)),if_neg e4]
theorem tO(h:oK n F){x p:Nat}(hx:x<n)(hu:F.u x=p){y r:Nat}(hy:y<n)(hr:(rZ F x p (F.u p)).u y=r) :
  (y=x/\F.u p=r)\/(y≠x/\F.u y=x/\r=p)\/(y=p/\r=x)\/(y≠x/\y≠p/\F.u y=p/\r=x)\/(y≠x/\y≠p/\F.u y=r/\r≠x/\r≠p):=by
 rw[Ee h hx hu hy]at hr
 by_cases e:y=x
 ·rw[if_pos e]at hr;exact Or.inl ⟨e,hr⟩
 ·rw[if_neg e]at hr
  by_cases e2:F.u y=x
  ·rw[if_pos e2]at hr;exact Or.inr (Or.inl ⟨e,e2,ω⟩)
  ·rw[if_neg e2]at hr
   by_cases e3:y=p\/F.u y=p
   ·rw[if_pos e3]at hr
    by_cases e4:y=p
    ·exact Or.inr (Or.inr (Or.inl ⟨e4,ω⟩))
    ·exact Or.inr (Or.inr (Or.inr (Or.inl ⟨e,e4,e3.resolve_left e4,ω⟩)))
   ·rw[if_neg e3]at hr;exact Or.inr (Or.inr (Or.inr (Or.inr ⟨e,fun e4=>e3 (Or.inl e4),hr,fun e5=>e2 ω,fun e5=>e3 (Or.inr ω)⟩)))
theorem qF(h:oK n F){x p:Nat}(hx:x<n)(hu:F.u x=p){y:Nat}(hy:y<n):(rZ F x p (F.u p)).u y=-1↔(y=x/\F.u p=-1)\/(y≠x/\y≠p/\F.u y=-1):=by
 rw[Ee h hx hu hy]
 by_cases e:y=x
 ·rw[if_pos e];exact⟨fun h=>Or.inl ⟨e,h⟩,fun h=>by rcases h with h|h;exact h.2;exact absurd e h.1⟩
 ·rw[if_neg e]
  by_cases e2:F.u y=x
  ·rw[if_pos e2];exact⟨fun h=>ω,fun h=>by rcases h with h|h;exact absurd h.1 e;omega⟩
  ·rw[if_neg e2]
   by_cases e3:y=p\/F.u y=p
   ·rw[if_pos e3];exact⟨fun h=>ω,fun h=>by rcases h with h|h;exact absurd h.1 e;rcases e3 with e3|e3;exact absurd e3 h.2.1;omega⟩
   ·rw[if_neg e3];exact⟨fun h=>Or.inr ⟨e,fun e4=>e3 (Or.inl e4),h⟩,fun h=>by rcases h with h|h;exact absurd h.1 e;exact h.2.2⟩
end
section
variable {A:NS}{G:BG}{x p:Nat}
theorem Ao(h:Fx A G x)(hx:x<A.cs.length)(hu:G.F.u x=p){k:Nat}{z:Int}(hz:z∈G.R k) :
  0<=Ki x p (G.F.u p) z/\Ki x p (G.F.u p) z<A.cs.length/\(rG G x p).F.u (Ki x p (G.F.u p) z).toNat=-1/\dE A.cs.length (rG G x p).F (Ki x p (G.F.u p) z)=dE A.cs.length G.F z/\(A.c (Ki x p (G.F.u p) z).toNat).i=(A.c z.toNat).i:=by
 obtain⟨hp,hm⟩:=h.fh.f.above hx hu;have hne:p≠x:=fun e=>by subst e;exact h.fh.f.self hx hm
 have hr:=(h.rh.row k).1 z hz;obtain⟨y,rfl⟩:=Int.eq_ofNat_of_zero_le hr.1;rw[π]at hr;have hy:y<A.cs.length:=ω;unfold Ki
 by_cases e:(y:Int)=p/\G.F.u p=-1
 ·rw[if_pos e,π,π];obtain rfl:y=p:=ω;refine⟨ω,ω,(qF h.fh.f hx hu hx).2 (Or.inl ⟨rfl,e.2⟩),?_,(h.fh.home x y hx hu).1⟩;rw[fK _ _ hx,fK _ _ hy]
  show(((rZ G.F x y (G.F.u y)).k x).length:Int)=_
  rw[uJ,if_pos rfl]
 ·rw[if_neg e,π];have hyp:y≠p:=fun e2=>by subst e2;exact e ⟨rfl,hr.2.2⟩
  have hyx:y≠x:=fun e2=>by subst e2;omega
  refine⟨ω,ω,(qF h.fh.f hx hu hy).2 (Or.inr ⟨hyx,hyp,hr.2.2⟩),?_,rfl⟩;rw[fK _ _ hy,fK _ _ hy]
  show(((rZ G.F x p (G.F.u p)).k y).length:Int)=_
  rw[uJ,if_neg hyx,if_neg hyp]
theorem AB(h:Fx A G x)(hx:x<A.cs.length)(hu:G.F.u x=p):Fx A (rG G x p) x:=by
 obtain⟨hp,hm⟩:=h.fh.f.above hx hu;have hne:p≠x:=fun e=>by subst e;exact h.fh.f.self hx hm
 have hxp:=h.fh.home x p hx hu;have hqx:∀q:Nat,G.F.u p=q->q≠x:=fun q hq e=>by
  have d1:=h.fh.f.OV hx hu;have d2:=h.fh.f.OV hp hq;subst e;omega
 refine⟨⟨QL h.fh.f hx hu,fun y r hy hr=>?_,fun y r hy hr hyx hrx=>?_,fun y hy hh=>?_⟩,fun q c hc h1 h2=>?_,⟨fun k=>⟨fun z hz=>?_,?_⟩,fun k y=>⟨fun hm2=>?_,fun hm2=>?_⟩⟩,fun k hk=>?_⟩
 ·rcases tO h.fh.f hx hu hy hr with⟨e,h2⟩|⟨_,h2,e⟩|⟨e,e2⟩|⟨_,_,h2,e⟩|⟨_,_,h2,_,_⟩
  ·subst e;have:=h.fh.home p r hp h2;exact⟨hxp.1.trans this.1,hxp.2⟩
  ·subst e;have:=h.fh.home y x hy h2;exact⟨this.1.trans hxp.1,this.2⟩
  ·subst e e2;exact⟨hxp.1.symm,by rw[←hxp.1];exact hxp.2⟩
  ·subst e;have:=h.fh.home y p hy h2;exact⟨this.1.trans hxp.1.symm,this.2⟩
  ·exact h.fh.home y r hy h2
 ·rcases tO h.fh.f hx hu hy hr with⟨e,h2⟩|⟨_,h2,e⟩|⟨e,e2⟩|⟨_,_,h2,e⟩|⟨_,_,h2,_,_⟩
  ·exact absurd e hyx
  ·subst e;exact h.two r y hy hu h2
  ·exact absurd e2 hrx
  ·exact absurd e hrx
  ·exact h.fh.ord y r hy h2 hyx hrx
 ·have h0:=h.fh.alone y hy hh;have hyx:y≠x:=fun e=>by subst e;exact hh hxp.2
  have hyp:y≠p:=fun e=>by subst e;exact hh (by rw[←hxp.1];exact hxp.2)
  refine⟨(qF h.fh.f hx hu hy).2 (Or.inr ⟨hyx,hyp,h0.1⟩),?_⟩;have:((rZ G.F x p (G.F.u p)).k y).length=0:=by rw[uJ,if_neg hyx,if_neg hyp,h0.2];rfl
  exact List.eq_nil_of_length_eq_zero this
 ·have h3:G.F.u p=q:=by
   have:=Ee h.fh.f hx hu hx;rw[if_pos rfl]at this;rw[←this];exact h1
  have hpq:=h.fh.ord p q hp h3 hne (hqx q h3);rcases tO h.fh.f hx hu hc h2 with⟨e,h4⟩|⟨_,h4,e⟩|⟨e,e2⟩|⟨e3,_,h4,e⟩|⟨_,_,h4,e3,_⟩
  ·exact absurd rfl (hqx x h4)
  ·exact absurd e.symm hne
  ·subst e;exact hpq
  ·exact bV hpq (h.fh.ord c p hc h4 e3 hne)
  ·exact absurd rfl e3
 ·obtain⟨z0,hz0,rfl⟩:=List.mem_map.1 hz;have:=Ao h hx hu hz0;exact⟨this.1,this.2.1,this.2.2.1⟩
 ·show((G.R k).map _).Pairwise _
  rw[List.pairwise_map];exact(h.rh.row k).2.imp_of_mem (fun {a b} ha hb hab=>by rw[(Ao h hx hu ha).2.2.2.1,(Ao h hx hu hb).2.2.2.1];exact hab)
 ·obtain⟨z0,hz0,e⟩:=List.mem_map.1 hm2;have h1:=Ao h hx hu hz0;rw[e]at h1;rw[π]at h1;have hr:=(h.rh.row k).1 z0 hz0;have h2:=(h.rh.mem k z0.toNat).1 (by rw[show((z0.toNat:Nat):Int)=z0 by omega];exact hz0);exact⟨h2.1,ω,h1.2.2.1,by show(A.c y).i=(k:Int);rw[h1.2.2.2.2];exact h2.2.2.2⟩
 ·obtain⟨k1,hy,hr,hh⟩:=hm2
  show(y:Int)∈(G.R k).map _
  rw[List.mem_map];rcases(qF h.fh.f hx hu hy).1 hr with⟨e,h2⟩|⟨hyx,hyp,h2⟩
  ·subst e;refine⟨(p:Int),(h.rh.mem k p).2 ⟨k1,hp,h2,?_⟩,by unfold Ki;rw[if_pos ⟨rfl,h2⟩]⟩;have e9:(A.c y).i=(A.c p).i:=hxp.1
   show(A.c p).i=(k:Int)
   rw[←e9];exact hh
  ·exact⟨(y:Int),(h.rh.mem k y).2 ⟨k1,hy,h2,hh⟩,by unfold Ki;rw[if_neg (fun e=>hyp ω)]⟩
 ·rw[←h.w k hk];unfold wt
  show(((G.R k).map _).map _).sum=_
  rw[List.map_map]
  congr 1
  exact List.map_congr_left (fun z hz=>by simp only[Function.comp];rw[(Ao h hx hu hz).2.2.2.1])
theorem Og(h:Fx A G x)(hx:x<A.cs.length)(hu:G.F.u x=p)(hk:∀c:Nat,c<A.cs.length->G.F.u c=x->bZ A x c)(hl:bZ A x p) :
  ∀c:Nat,c<A.cs.length->(rG G x p).F.u c=x->bZ A x c:=fun c hc h2=>by
 obtain⟨hp,hm⟩:=h.fh.f.above hx hu;have hne:p≠x:=fun e=>by subst e;exact h.fh.f.self hx hm
 rcases tO h.fh.f hx hu hc h2 with⟨e,h4⟩|⟨_,h4,e⟩|⟨e,e2⟩|⟨e3,_,h4,e⟩|⟨_,_,h4,e3,_⟩
 ·have d1:=h.fh.f.OV hx hu;have d2:=h.fh.f.OV hp h4;omega
 ·exact absurd e.symm hne
 ·subst e;exact hl
 ·exact bV hl (h.fh.ord c p hc h4 e3 hne)
 ·exact absurd rfl e3
theorem Fx.done(h:Fx A G x)(hx:x<A.cs.length)(hk:∀c:Nat,c<A.cs.length->G.F.u c=x->bZ A x c)(ht:∀p:Nat,G.F.u x=p->bZ A p x):Dk A G:=by
 refine⟨⟨h.fh.f,h.fh.home,fun y r hy hr=>?_,h.fh.alone⟩,h.rh,h.w⟩
 by_cases e1:y=x
 ·subst e1;exact ht r hr
 ·by_cases e2:r=x
  ·subst e2;exact hk y hy hr
  ·exact h.fh.ord y r hy hr e1 e2
theorem CQ{k s:Int}(h:Dk A G)(hB:jg A x k s=true)(hx:x<A.cs.length):Fx (ay A x k s) G x/\∀c:Nat,c<A.cs.length->G.F.u c=x->bZ (ay A x k s) x c:=by
 have hc:=fun y=>rD hB hx y;have hi:=fun y=>iM hB hx y;have hle:=uu hB;rw[π]at hle;have hne:∀y r:Nat,y<A.cs.length->G.F.u y=r->y≠r:=fun y r hy hu e=>by
  subst e;exact h.fh.f.self hy (h.fh.f.above hy hu).2
 have low:∀y:Nat,y≠x->bZ A x y->bZ (ay A x k s) x y:=fun y hy hl=>l9 hl (by rw[hc,if_neg hy]) (by rw[hc,if_pos rfl];exact hle);have same:∀y r:Nat,y≠x->r≠x->bZ A y r->bZ (ay A x k s) y r:=fun y r h1 h2 hl=>(fJ (by rw[hc,if_neg h1]) (by rw[hc,if_neg h2])).2 hl;have hn:=fE A x k s;have hw:∀q:Nat,dO (ay A x k s) q=dO A q:=fun q=>by
  unfold ay;rw[if_pos hB,π];have e:=nO A x ⟨(A.c x).i,k,s⟩ q hx;simp only at e;omega
 refine⟨⟨⟨by rw[hn];exact h.fh.f,fun y r hy hr=>?_,fun y r hy hr e1 e2=>?_,fun y hy hh=>?_⟩,fun q c hc' h1 h2=>?_,⟨fun q=>by rw[hn];exact h.rh.row q,fun q y=>?_⟩,fun q hq=>by rw[hn,hw];exact h.w q hq⟩,fun c hc' hu=>?_⟩
 ·rw[hn]at hy;simp only[hi];exact h.fh.home y r hy hr
 ·rw[hn]at hy;exact same r y e2 e1 (h.fh.ord y r hy hr)
 ·rw[hn]at hy;simp only[hi]at hh;exact h.fh.alone y hy hh
 ·rw[hn]at hc';have h3:=h.fh.ord x q hx h1;have h4:=h.fh.ord c x hc' h2;exact same q c (fun e=>hne x q hx h1 e.symm) (hne c x hc' h2) (bV h3 h4)
 ·rw[hn];simp only[hi];exact h.rh.mem q y
 ·exact low c (hne c x hc' hu) (h.fh.ord c x hc' hu)
end
theorem oO(A:NS)(a b:Int)(h:bX A a b=true):bX A b a=false:=by
 unfold bX at *;simp only[Bool.and_eq_true,decide_eq_true_eq]at h;have:=qy h.2;simp[this]
theorem zH{A:NS}{y p:Nat}(hy:bS A (y:Int)=true)(hp:bS A (p:Int)=true)(hne:y≠p)(h:bX A y p=false):bZ A p y:=by
 rw[lY,hy,hp]at h;simp only[Bool.and_self,Bool.true_and,decide_eq_false_iff_not]at h;exact(je hne).resolve_left h
def iG(G:BG)(h x:Nat):BG:=⟨fM G.F x,dA G.R h ((G.R h).filter (fun z=>z != (x:Int)))⟩
def rC(A:NS)(h x:Nat)(G:BG):BG:=yQ (bX A) A.cs.length h (G.F.k x) (iG G h x)
def yI(A:NS)(h x:Nat)(G:BG):Nat:=(lu (bX A) A.cs.length (iG G h x).F ((iG G h x).R h) (G.F.k x)).q
theorem Jj{l:List Int}(hn:l.Nodup){x:Int}(hx:x∈l):(l.filter (fun z=>z != x)).length+1=l.length:=by
 induction l with
 | nil=>cases hx
 | cons y r ih=>
  rw[List.nodup_cons]at hn;rcases ρ.1 hx with e|h
  ·subst e;have:r.filter (fun z=>z != x)=r:=by
    rw[List.filter_eq_self];intro a ha;simp;intro e;subst e;exact hn.1 ha
   rw[List.filter_cons_of_neg σ,this];simp
  ·have hne:y≠x:=fun e=>by subst e;exact hn.1 h
   rw[List.filter_cons_of_pos (by simpa using hne)];have:=ih hn.2 h;simp only[List.length_cons];omega
theorem ND{n:Nat}{F:CF}{l:List Int}(hn:l.Nodup){x:Int}(hx:x∈l):wt n F (l.filter (fun z=>z != x))+2 ^ (dE n F x).toNat=wt n F l:=by
 have hc:∀ (y:Int) (l:List Int),wt n F (y::l)=2 ^ (dE n F y).toNat + wt n F l:=fun y l=>by unfold wt;simp
 induction l with
 | nil=>cases hx
 | cons y r ih=>
  rw[List.nodup_cons]at hn;rcases ρ.1 hx with e|h
  ·subst e;have:r.filter (fun z=>z != x)=r:=by
    rw[List.filter_eq_self];intro a ha;simp;intro e;subst e;exact hn.1 ha
   rw[List.filter_cons_of_neg σ,this,hc];omega
  ·have hne:y≠x:=fun e=>by subst e;exact hn.1 h
   rw[List.filter_cons_of_pos (by simpa using hne),hc,hc];have:=ih hn.2 h;omega
section
variable {A:NS}{G:BG}{h x:Nat}
theorem Ll(B:Fx A G x)(ok:A.Ok)(hx:x<A.cs.length)(hr:G.F.u x=-1)(hin:0<(A.c x).i)(hh:(A.c x).i=h) :
  Dk (bz A x) (rC A h x G)/\yI A h x G+((rC A h x G).R h).length+1=(G.R h).length+(G.F.k x).length/\(x:Int)∈G.R h/\
   lS A.cs.length (fM G.F x) ((G.R h).filter (fun z=>z != (x:Int)))/\lS A.cs.length (fM G.F x) (G.F.k x)/\(∀z,z∈(G.R h).filter (fun z=>z != (x:Int))->z∉G.F.k x)/\oK A.cs.length (fM G.F x)/\
   (∀z,z∈G.R h\/z∈G.F.k x->bS A z=true):=by
 have Fq:1<=h:=ω;have hn:=ok.c1;have inx:bS A (x:Int)=true:=(ah _ _).2 ⟨hx,hin⟩;have hc:=fun y=>x9 inx y;have hcs:=fG A (x:Int);have dn:=B.fh.f.nd x hx;have ku:∀z,z∈G.F.k x->∃y:Nat,z=y/\y<A.cs.length/\G.F.u y=x:=fun z hz=>by
  obtain⟨y,h1,h2,h3,_⟩:=B.fh.f.below hx hz;exact⟨y,h1,h2,h3⟩
 have sx:(x:Int)∉G.F.k x:=B.fh.f.self hx;have dS:∀z:Int,z≠x->dE A.cs.length (fM G.F x) z=dE A.cs.length G.F z:=fun z hz=>by
  unfold dE fM;simp only
  by_cases h0:0<=z/\z<A.cs.length
  ·rw[if_pos h0,if_pos h0,if_neg ω]
  ·rw[if_neg h0,if_neg h0]
 have uS:∀z:Int,0<=z->G.F.u z.toNat=-1->(fM G.F x).u z.toNat=-1:=fun z h0 hu=>by
  unfold fM;simp only
  split
  ·rfl
  ·exact hu
 have kU:∀z,z∈G.F.k x->(fM G.F x).u z.toNat=-1:=fun z hz=>by
  obtain⟨y,rfl,_,_⟩:=ku z hz;unfold fM;simp only[π];rw[if_pos hz]
 have mx:(x:Int)∈G.R h:=(B.rh.mem h x).2 ⟨Fq,hx,hr,hh⟩;have hrow:∀k,lS A.cs.length (fM G.F x) ((iG G h x).R k):=fun k=>by
  have base:∀l:List Int,lS A.cs.length G.F l->(x:Int)∉l->lS A.cs.length (fM G.F x) l:=fun l hl hxl=>by
   refine⟨fun z hz=>?_,hl.2.imp_of_mem (fun {a b} ha hb hab=>?_)⟩
   ·have:=hl.1 z hz;exact⟨this.1,this.2.1,uS z this.1 this.2.2⟩
   ·rw[dS a (fun e=>hxl (e▸ha)),dS b (fun e=>hxl (e▸hb))];exact hab
  unfold iG dA;simp only
  split
  ·refine base _ ⟨fun z hz=>(B.rh.row h).1 z (List.mem_filter.1 hz).1,(B.rh.row h).2.filter _⟩ (fun hm=>by simp at hm)
  ·rename_i hk
   exact base _ (B.rh.row k) (fun hm=>hk (by have:=((B.rh.mem k x).1 hm).2.2.2;omega))
 have hl:lS A.cs.length (fM G.F x) (G.F.k x):=Sg B.fh.f hx (fun z hz=>dS z (fun e=>sx (e▸hz))) kU;have hd:∀z,z∈(iG G h x).R h->z∉G.F.k x:=fun z hz hk=>by
  unfold iG dA at hz;simp only[if_true]at hz;obtain⟨y,rfl,hy,hu⟩:=ku z hk;have:=((B.rh.mem h y).1 (List.mem_filter.1 hz).1).2.2.1;omega
 have hF:FH A.cs.length (fM G.F x) (fun y=>((bz A x).c y).i) (bZ (bz A x)):=by
  refine⟨B.fh.f.Ty hx hr,fun y p hy hu=>?_,fun y p hy hu=>?_,fun y hy h0=>?_⟩
  all_goals unfold fM at *;simp only at *
  ·split at hu
   ·omega
   ·rename_i hk
    have hyx:y≠x:=fun e=>by subst e;omega
    have hpx:p≠x:=fun e=>by subst e;exact hk (B.fh.f.above hy hu).2
    rw[hc,hc,if_neg hyx,if_neg hpx];exact B.fh.home y p hy hu
  ·split at hu
   ·omega
   ·rename_i hk
    have hyx:y≠x:=fun e=>by subst e;omega
    have hpx:p≠x:=fun e=>by subst e;exact hk (B.fh.f.above hy hu).2
    exact(fJ (by rw[hc,if_neg hpx]) (by rw[hc,if_neg hyx])).2 (B.fh.ord y p hy hu hyx hpx)
  ·by_cases hyx:y=x
   ·subst hyx;exact⟨by rw[if_neg sx];exact hr,by rw[if_pos rfl]⟩
   ·rw[hc,if_neg hyx]at h0;have:=B.fh.alone y hy h0;rw[if_neg hyx,this.2];exact⟨by split;rfl;exact this.1,rfl⟩
 have hL:∀y p:Nat,y<A.cs.length->p<A.cs.length->((bz A x).c y).i=(h:Int)->((bz A x).c p).i=(h:Int)->y≠p->bX A y p=false->bZ (bz A x) p y:=fun y p hy hp h1 h2 hne ha=>by
  have hyx:y≠x:=fun e=>by rw[hc,if_pos e]at h1;simp[Cl.z]at h1;omega
  have hpx:p≠x:=fun e=>by rw[hc,if_pos e]at h2;simp[Cl.z]at h2;omega
  rw[hc,if_neg hyx]at h1;rw[hc,if_neg hpx]at h2;exact(fJ (by rw[hc,if_neg hpx]) (by rw[hc,if_neg hyx])).2 (zH ((ah _ _).2 ⟨hy,ω⟩) ((ah _ _).2 ⟨hp,ω⟩) hne ha)
 have hroot:∀y:Nat,y<A.cs.length->((fM G.F x).u y=-1↔G.F.u y=-1\/G.F.u y=x):=fun y hy=>by
  unfold fM;simp only;have hk:=wY B.fh.f hx hy
  by_cases e:G.F.u y=x
  ·rw[if_pos (hk.2 e)];exact⟨fun _=>Or.inr e,fun _=>rfl⟩
  ·rw[if_neg (fun hm=>e (hk.1 hm))];exact⟨fun h=>Or.inl h,fun h=>h.resolve_right e⟩
 have hmem:∀k y:Nat,k≠h->((y:Int)∈(iG G h x).R k↔1<=k/\y<A.cs.length/\(fM G.F x).u y=-1/\((bz A x).c y).i=(k:Int)):=fun k y hk=>by
  unfold iG dA;simp only[if_neg hk];rw[B.rh.mem k y];constructor
  ·rintro⟨a1,a2,a3,a4⟩;have hyx:y≠x:=fun e=>by subst e;omega
   exact⟨a1,a2,(hroot y a2).2 (Or.inl a3),by rw[hc,if_neg hyx];exact a4⟩
  ·rintro⟨a1,a2,a3,a4⟩;have hyx:y≠x:=fun e=>by rw[hc,if_pos e]at a4;simp[Cl.z]at a4;omega
   rw[hc,if_neg hyx]at a4;refine⟨a1,a2,((hroot y a2).1 a3).resolve_right (fun e=>?_),a4⟩;have:=(B.fh.home y x a2 e).1;omega
 have hm:∀y:Nat,y<A.cs.length/\(fM G.F x).u y=-1/\((bz A x).c y).i=(h:Int)↔(y:Int)∈(iG G h x).R h\/(y:Int)∈G.F.k x:=fun y=>by
  unfold iG dA;simp only[if_true,List.mem_filter,bne_iff_ne,ne_eq];rw[B.rh.mem h y];constructor
  ·rintro⟨a2,a3,a4⟩;have hyx:y≠x:=fun e=>by rw[hc,if_pos e]at a4;simp[Cl.z]at a4;omega
   rw[hc,if_neg hyx]at a4;rcases(hroot y a2).1 a3 with e|e
   ·exact Or.inl ⟨⟨Fq,a2,e,a4⟩,ω⟩
   ·exact Or.inr ((wY B.fh.f hx a2).2 e)
  ·rintro(⟨⟨_,a2,a3,a4⟩,a5⟩|a1)
   ·exact⟨a2,(hroot y a2).2 (Or.inl a3),by rw[hc,if_neg ω];exact a4⟩
   ·obtain⟨z,e,a2,a3⟩:=ku _ a1;obtain rfl:y=z:=ω;have hyx:y≠x:=fun e=>by subst e;exact sx a1
    refine⟨a2,(hroot y a2).2 (Or.inr a3),?_⟩;rw[hc,if_neg hyx];have:=(B.fh.home y x a2 a3).1;omega
 obtain⟨r1,r2,r3,r4⟩:=Dt (G:=iG G h x) hF hn (oO A) hL Fq hrow hmem hm hl hd;have nd:(G.R h).Nodup:=(B.rh.row h).nodup;have eR:(iG G h x).R h=(G.R h).filter (fun z=>z != (x:Int)):=by unfold iG dA;simp
 have fl:=Jj nd mx;refine⟨⟨by rw[hcs];exact r1,by rw[hcs];exact r2,fun k hk=>?_⟩,?_,mx,by rw[←eR];exact hrow h,hl,by rw[←eR];exact hd,hF.f,fun z hz=>?_⟩
 ·rw[hcs];have e1:wt A.cs.length (rC A h x G).F ((rC A h x G).R k)=_:=r3 k;rw[e1];have hlen:=nO A x Cl.z (k:Int) hx;have e2:bz A x=jc A x Cl.z:=by unfold bz;rw[if_pos inx,π]
  rw[e2]
  by_cases ek:k=h
  ·subst ek;rw[if_pos rfl,eR];rw[if_pos ω,if_neg (by simp[Cl.z];omega)]at hlen;have w1:=ND (F:=G.F) (n:=A.cs.length) nd mx;rw[fK _ _ hx,π]at w1;have w2:=Vp (F':=fM G.F x) B.fh.f hx (fun z hz=>dS z (fun e=>sx (e▸hz)));have w3:wt A.cs.length (fM G.F x) ((G.R k).filter (fun z=>z != (x:Int)))=wt A.cs.length G.F ((G.R k).filter (fun z=>z != (x:Int))):=Aq (fun z hz=>dS z (by simpa using (List.mem_filter.1 hz).2));have w4:=B.w k hk
   show wt A.cs.length (fM G.F x) _+wt A.cs.length (fM G.F x) _=_
   omega
  ·rw[if_neg ek];rw[if_neg ω,if_neg (by simp[Cl.z];omega)]at hlen;have eK:(iG G h x).R k=G.R k:=by unfold iG dA;simp only[if_neg ek]
   rw[eK];have w4:=B.w k hk
   have w3:wt A.cs.length (fM G.F x) (G.R k)=wt A.cs.length G.F (G.R k):=Aq (fun z hz=>dS z (fun e=>by
    subst e;have:=((B.rh.mem k x).1 hz).2.2.2
    omega))
   show wt A.cs.length (fM G.F x) _=_
   omega
 ·rw[eR]at r4;have e3:yI A h x G=(lu (bX A) A.cs.length (iG G h x).F ((G.R h).filter (fun z=>z != (x:Int))) (G.F.k x)).q:=by unfold yI;rw[eR]
  rw[e3];have e4:(rC A h x G).R h=(yQ (bX A) A.cs.length h (G.F.k x) (iG G h x)).R h:=rfl;rw[e4];omega
 ·rcases hz with hz|hz
  ·have hr:=(B.rh.row h).1 z hz;have:=(B.rh.mem h z.toNat).1 (by rw[show((z.toNat:Nat):Int)=z by omega];exact hz);exact(yY _ _).2 ⟨hr.1,hr.2.1,by have:=this.2.2.2;omega⟩
  ·obtain⟨y,rfl,hy,hu⟩:=ku z hz;exact(ah _ _).2 ⟨hy,(B.fh.home y x hy hu).2⟩
end
end Go.Proofs.YtklibcncmbofpaaGreat
