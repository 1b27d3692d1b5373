/-
  Lemmas for ProofHolds: CarryLink, KarDef, KOrd, Kar7, Kar9, Kar10, KarPl. Conditions: those of each lemma.
-/
import Derived.Deep.DeepCutAuto
import Derived.Outline
import Derived.Test.YtklibcncmbofpaaGreatR02
import Derived.Test.YtklibcncmbofpaaGreatR12
set_option linter.all false
set_option maxHeartbeats 8000000
set_option maxRecDepth 10000
namespace Go.Proofs.YtklibcncmbofpaaGreat
open Go Go.RowKit
def oN(S:CS)(v:Value)(a b:Nat):CS:=(S.Cb a v (S.k a++[(b:Int)])).sj b a
theorem Im(bt ba lo n:Nat)(S:CS)(a b:Nat)(w:World)(h:aY w bt ba lo n S)(ha:a<n)(hb:b<n)(hra:oQ n S a=true)(hrb:oQ n S b=true)(hne:a≠b)(hd:oL n S a=oL n S b)(hlen:(S.k a).length+1<=n) :
    Calls Tryz.prog 206 #[.pointer (some ⟨bt,0,none⟩),.int .i64 (a:Int),.int .i64 (b:Int)] w fun e w'=>∃v,e=.returned (.bool true)/\aY w' bt ba lo n (oN S v a b)/\aa (ba::S.blk n) w w'/\(∀g,g∈(oN S v a b).blk n->g∈S.blk n\/w.heap.size<=g):=by
  have hle:=h.le;have hl1:=h.Ux;have hl2:=h.MQ;have hlow:=h.low;have hnb:=h.ne;have k1:=xe bt ba lo n S a w h;have k2:=xe bt ba lo n S b w h;have k3:=qN bt ba lo n S a w h;have k4:=qN bt ba lo n S b w h;rw[hra]at k1;rw[hrb]at k2;rw[hd]at k3;have b1:((a:Int) == (b:Int))=false:=ζ;have ho:=h.own a ha;obtain⟨sa,cap,hv,hcap⟩:=bq ho;have Xn:∀g,g∈(S.v a).ownBlock.toList->lo<=g/\g<w.heap.size:=fun g hg=>ho.lt g (by simpa using hg);have r1:∀W,aa (S.v a).ownBlock.toList w W->W.cell? ⟨bt,0,none⟩=some (.slice (some ⟨ba,0,none⟩) n n):=fun W hW=>by
    rw[hW.cell h.head.lt (fun hm=>by have:=Xn _ hm;simp at this;omega)];exact h.head.cell 0 ω
  have r2:∀W,aa (S.v a).ownBlock.toList w W->W.cell? ⟨ba,a*2,none⟩=some (S.v a):=fun W hW=>by
    rw[hW.cell h.row.lt (fun hm=>by have:=Xn _ hm;simp at this;omega)];exact h.row.cellAt (a*2) ω (nH S a)
  have r3:∀W,aa (S.v a).ownBlock.toList w W->W.cell? ⟨ba,b*2+1,none⟩=some (.int .i64 (S.u b)):=fun W hW=>by
    rw[hW.cell h.row.lt (fun hm=>by have:=Xn _ hm;simp at this;omega)];exact h.row.cellAt (b*2+1) ω (uL S b)
  have q1:∀W,aa (S.v a).ownBlock.toList w W->W.frozen? ⟨ba,a*2,none⟩=false:=fun W hW=>by
    rw[hW.frozen h.row.lt (fun hm=>by have:=Xn _ hm;simp at this;omega)];exact h.row.free _
  have q2:∀W,aa (S.v a).ownBlock.toList w W->W.frozen? ⟨ba,b*2+1,none⟩=false:=fun W hW=>by
    rw[hW.frozen h.row.lt (fun hm=>by have:=Xn _ hm;simp at this;omega)];exact h.row.free _
  have s0:aa (S.v a).ownBlock.toList w w:=aa.refl _ _;have H:=χ h;have HV:=χ hv;have hk:=eZ (S.k a);have HLEN:=χ hlen;generalize hva:S.v a=va at *;have HVA:=χ hva;subst hv;clear h hra hrb hd hva hne
  go_enter Tryz.func206,Tryz.ntmps206
  go_wp2_with (first
    | (go_at_call 198;(with_reducible refine(k1).mono ?_);rintro e w9 ⟨rfl,aJ⟩;rw[aJ];clear aJ w9)
    | (go_at_call 198;(with_reducible refine(k2).mono ?_);rintro e w9 ⟨rfl,aJ⟩;rw[aJ];clear aJ w9)
    | (go_at_call 204;(with_reducible refine(k3).mono ?_);rintro e w9 ⟨rfl,aJ⟩;rw[aJ];clear aJ w9)
    | (go_at_call 204;(with_reducible refine(k4).mono ?_);rintro e w9 ⟨rfl,aJ⟩;rw[aJ];clear aJ w9))
  have s1:aa (Value.slice sa (S.k a).length cap).ownBlock.toList w (w.drew.alloc (.cells #[.int .i64 (b:Int)] 3)):=s0.drew.alloc _;have g1:=r1 _ s0;have g2:=r2 _ s0;have a1:=r1 _ (s0.alloc (.cells #[.int .i64 (b:Int)] 3));have a2:=r2 _ (s0.alloc (.cells #[.int .i64 (b:Int)] 3))
  go_region_law
    (first
      | (refine j4 rfl _ _ 26 rfl lo 3 (.int .i64 0) 1 8 Tryz.underlying26 fF rfl δ (.slice sa (S.k a).length cap) (S.k a).length (aQ (S.k a)) rfl (ho.drew.alloc _) w.heap.size [.int .i64 (b:Int)] rfl rfl (fun j u hj=>mP w [.int .i64 (b:Int)] 3 j u hj) (by simp[Value.oneCell']) μ ω ζ ?_
         intro v2 w2 ho2 hu2 hv2;have hS2:aa (Value.slice sa (S.k a).length cap).ownBlock.toList w w2:=s1.trans hu2;have g3:=r1 _ hS2;have g4:=r2 _ hS2;have g5:=q1 _ hS2
         obtain⟨a2,cap2,rfl,hcap2⟩:=bq ho2))
  all_goals
    have ho3:w2.ownsRow lo 3 1 (.slice a2 ((S.k a).length+1) cap2) (S.k a++[(b:Int)]).length (aQ (S.k a++[(b:Int)])):=by rw[bM,υ];exact ho2
    have hF:=H.out.WH a ha (.slice a2 ((S.k a).length+1) cap2) (S.k a++[(b:Int)]) hS2 (fun g hg=>by rw[HVA.out];simpa using hg) ho3 (fun g hg=>by
      rcases hv2 with h|h
      · rw[h]at hg;exact Or.inl (by rw[HVA.out];exact hg)
      · rw[h]at hg;simp at hg;exact Or.inr ω) (by rw[υ];exact hlen)
    have e0:=hF.head.cell 0 ω;have e1:=hF.row.cell (b*2+1) ω;have e2:=hF.row.free (b*2+1);have HF:=χ hF;have HV2:=χ hv2;clear hF hv2 ho2 ho3 r1 r2 r3 q1 q2;go_wp2;go_ret;refine⟨_,rfl,HF.out.bR b hb a,?_,fun g hg=>?_⟩
    · refine((hS2.mono (fun g hg=>?_)).setCell (Or.inl σ) _).setCell (Or.inl σ) _
      simp only[ρ];refine Or.inr ((S.jY n g).2 ⟨a,ha,?_⟩);rw[HVA.out];simpa using hg
    · rcases S.QB a (.slice a2 ((S.k a).length+1) cap2) (S.k a++[(b:Int)]) n g hg with h|h
      · exact Or.inl h
      · rcases HV2.out with h2|h2
        · exact Or.inl ((S.jY n g).2 ⟨a,ha,by rw[HVA.out,←h2];exact h⟩)
        · rw[h2]at h;simp at h;exact Or.inr ω
end Go.Proofs.YtklibcncmbofpaaGreat
namespace Go.Proofs.YtklibcncmbofpaaGreat
def jS(lt:Int->Int->Bool)(a b:Nat):Nat:=if lt b a then b else a
def nu(lt:Int->Int->Bool)(a b:Nat):Nat:=if lt b a then a else b
structure CF where
 k:Nat->List Int
 u:Nat->Int
def CS.f(S:CS):CF:=⟨S.k,S.u⟩
def Aw(n:Nat)(F:CF)(x:Int):Bool:=decide (0<=x/\x<n) && F.u x.toNat == -1
def dE(n:Nat)(F:CF)(x:Int):Int:=if 0<=x/\x<n then (F.k x.toNat).length else 0
theorem YU(n:Nat)(S:CS)(x:Int):oQ n S x=Aw n S.f x:=rfl
theorem XL(n:Nat)(S:CS)(x:Int):oL n S x=dE n S.f x:=rfl
def iA(F:CF)(a b:Nat):CF:=⟨fun y=>if y=a then F.k a++[(b:Int)]else F.k y,fun y=>if y=b then (a:Int)else F.u y⟩
theorem Y5(S:CS)(v:Go.Value)(a b:Nat):(oN S v a b).f=iA S.f a b:=rfl
structure CC where
 F:CF
 A:List Int
 B:List Int
 N:List Int
 O:List Int
 q:Nat
def takeA(n k:Nat)(C:CC):CC:=match C.A with|x::t=>(if dE n C.F x=k then { C with A:=t,N:=C.N++[x] } else C)|[]=>C
def takeB(n k:Nat)(C:CC):CC:=match C.B with|x::t=>(if dE n C.F x=k then { C with B:=t,N:=C.N++[x] } else C)|[]=>C
def fO(C:CC):CC:=match C.N with|[x]=>{ C with N:=[],O:=C.O++[x] }|[x,y,z]=>{ C with N:=[y,z],O:=C.O++[x] }|_=>C
def nz(lt:Int->Int->Bool)(C:CC):CC:=match C.N with
 | [x,y]=>{ C with F:=iA C.F (jS lt x.toNat y.toNat) (nu lt x.toNat y.toNat),N:=[(jS lt x.toNat y.toNat:Int)],q:=C.q+1 }
 | _=>C
def Gs(lt:Int->Int->Bool)(n k:Nat)(C:CC):CC:=nz lt (fO (takeB n k (takeA n k C)))
def gV(lt:Int->Int->Bool)(n:Nat):Nat->CC->CC
 | 0,C=>C
 | k+1,C=>Gs lt n k (gV lt n k C)
structure MP(dom:Int->Prop)(lt:Int->Int->Bool)(n k:Nat)(C:CC):Prop where
 few:C.N.length<=1
 join:∀x y,(fO (takeB n k (takeA n k C))).N=[x,y]->∃a b:Nat,x=a/\y=b/\dom a/\dom b/\a<n/\b<n/\a≠b/\Aw n (fO (takeB n k (takeA n k C))).F a=true/\Aw n (fO (takeB n k (takeA n k C))).F b=true/\
  dE n (fO (takeB n k (takeA n k C))).F a=dE n (fO (takeB n k (takeA n k C))).F b/\((fO (takeB n k (takeA n k C))).F.k a).length+1<=n/\((fO (takeB n k (takeA n k C))).F.k b).length+1<=n
 small:C.A.length+C.B.length+C.O.length<=100000
 asked:C.q<=1000000
 ends:C.A≠[]\/C.B≠[]\/C.N≠[]->k<=n
def tA(n k:Nat)(A:List Int)(F:CF):Bool:=match A with|x::_=>dE n F x == (k:Int)|[]=>false
def tot(C:CC):Nat:=C.A.length+C.B.length+C.N.length+C.O.length
theorem xW(n k:Nat)(C:CC):tot (takeA n k C)=tot C/\(takeA n k C).N.length<=C.N.length+1:=by
 unfold takeA tot
 split
 ·rename_i x t h
  split
  ·simp only[h,υ,List.length_cons,List.length_nil];omega
  ·simp
 ·simp
theorem xO(n k:Nat)(C:CC):tot (takeB n k C)=tot C/\(takeB n k C).N.length<=C.N.length+1:=by
 unfold takeB tot
 split
 ·rename_i x t h
  split
  ·simp only[h,υ,List.length_cons,List.length_nil];omega
  ·simp
 ·simp
theorem Pm(C:CC)(h3:C.N.length<=3):tot (fO C)=tot C/\(fO C).N.length<=2:=by
 obtain⟨F,A,B,N,O,q⟩:=C;simp only at h3
 match N,h3 with
 | [],_=>simp[fO,tot]
 | [x],_=>simp[fO,tot];try omega
 | [x,y],_=>simp[fO,tot]
 | [x,y,z],_=>simp[fO,tot];try omega
 | _::_::_::_::_,h3=>simp at h3;try omega
theorem SG(n k:Nat)(C:CC):(fO (takeB n k (takeA n k C))).q=C.q:=by
 have h1:∀C,(fO C).q=C.q:=fun C=>by unfold fO;split<;>rfl
 have h2:∀C,(takeB n k C).q=C.q:=fun C=>by
  unfold takeB;split
  ·split<;>rfl
  ·rfl
 have h3:∀C,(takeA n k C).q=C.q:=fun C=>by
  unfold takeA;split
  ·split<;>rfl
  ·rfl
 rw[h1,h2,h3]
end Go.Proofs.YtklibcncmbofpaaGreat
namespace Go.Proofs.YtklibcncmbofpaaGreat
open Go Go.RowKit
structure uT where
 ty:TypeId
 p:Nat
 rd:List Nat
 wr:List Nat
 lt:Int->Int->Bool
 dom:Int->Prop
 at_:World->Nat->Prop
 sub:∀x,x∈wr->x∈rd
 low:∀ {w:World} {q:Nat},at_ w q->∀x,x∈rd->x<w.heap.size
 upd:∀ {w w':World} {S:List Nat} {q:Nat},at_ w q->aa S w w'->(∀x,x∈S->x∉rd)->at_ w' q
 asym:∀a b,lt a b=true->lt b a=false
 ahead:∀ {w:World} {q:Nat} (x y:Int),at_ w q->dom x->dom y->q<=1000000->Pp ty p "Ahead" w (fun v=>#[v,.int .i64 x,.int .i64 y]) fun w e w'=>e=.returned (.bool (lt x y))/\at_ w' (q+1)/\aa wr w w'
structure Apart(O:uT)(bt ba n:Nat)(S:CS):Prop where
 bt:bt∉O.rd
 ba:ba∉O.rd
 blk:∀g,g∈S.blk n->g∉O.rd
theorem Apart.rd{O:uT}{bt ba n:Nat}{S:CS}(h:Apart O bt ba n S):∀g,g∈ba::S.blk n->g∉O.rd:=fun g hg=>by
 rcases ρ.1 hg with rfl|hg
 ·exact h.ba
 ·exact h.blk g hg
theorem Apart.wr{O:uT}{bt ba n:Nat}{S:CS}(h:Apart O bt ba n S):bt∉O.wr/\ba∉O.wr/\∀g,g∈S.blk n->g∉O.wr:=
 ⟨fun hm=>h.bt (O.sub _ hm),fun hm=>h.ba (O.sub _ hm),fun g hg hm=>h.blk g hg (O.sub _ hm)⟩
theorem TR(O:uT)(bt ba lo n:Nat)(S:CS)(asked a b:Nat)(w:World)(h:aY w bt ba lo n S)(hO:O.at_ w asked)(hda:O.dom a)(hdb:O.dom b)(hk:asked<=1000000)
  (ha:a<n) (hb:b<n) (hra:oQ n S a=true) (hrb:oQ n S b=true) (hne:a≠b) (hd:oL n S a=oL n S b) (hl1:(S.k a).length+1<=n) (hl2:(S.k b).length+1<=n)
  (hA:Apart O bt ba n S) :
  Calls Tryz.prog 205 #[.pointer (some ⟨bt,0,none⟩),.iface O.ty (.pointer (some ⟨O.p,0,none⟩)),.int .i64 (a:Int),.int .i64 (b:Int)] w fun e w'=>
   ∃v,e=.returned (.int .i64 (jS O.lt a b:Int))/\aY w' bt ba lo n (oN S v (jS O.lt a b) (nu O.lt a b))/\O.at_ w' (asked+1)/\aa (O.wr++ba::S.blk n) w w'/\(∀g,g∈(oN S v (jS O.lt a b) (nu O.lt a b)).blk n->g∈S.blk n\/w.heap.size<=g):=by
 obtain⟨f,fv,hen,hm,hc⟩:=(O.ahead (b:Int) (a:Int) hO hdb hda hk).now;unfold Enters at hen;have hF:=fun W (hW:aa O.wr w W)=>h.upd hW hA.wr.1 hA.wr.2.1 hA.wr.2.2;have kL1:=fun W (hW:aa O.wr w W)=>Im bt ba lo n S a b W (hF W hW) ha hb hra hrb hne hd hl1;have kL2:=fun W (hW:aa O.wr w W)=>Im bt ba lo n S b a W (hF W hW) hb ha hrb hra (Ne.symm hne) hd.symm hl2;have HS:=χ hA.rd;clear hF h hO hA hd hra hrb hda hdb;unfold jS nu;generalize O.ty=ty at *;cases hab:O.lt b a with
 | true=>
  rw[hab]at hc;rw[if_pos rfl,if_pos rfl];clear hab kL1
  go_enter Tryz.func205,Tryz.ntmps205
  go_wp2_with (first
   | ((with_reducible refine(hc).mono ?_);rintro e w1 ⟨rfl,hL1,hu1⟩)
   | ((go_at_call 206;(with_reducible refine(kL2 _ hu1).mono ?_));rintro e w2 ⟨v2,rfl,hF2,hu2,hb2⟩))
  go_ret;refine⟨_,rfl,hF2,O.upd hL1 hu2 HS.out,(hu1.mono (by simp +contextual)).trans (hu2.mono (fun g hg=>τ.2 (Or.inr hg))),fun g hg=>?_⟩;rcases hb2 g hg with h|h
  ·exact Or.inl h
  ·exact Or.inr (Nat.le_trans hu1.size h)
 | false=>
  rw[hab]at hc;rw[if_neg σ,if_neg σ];clear hab kL2
  go_enter Tryz.func205,Tryz.ntmps205
  go_wp2_with (first
   | ((with_reducible refine(hc).mono ?_);rintro e w1 ⟨rfl,hL1,hu1⟩)
   | ((go_at_call 206;(with_reducible refine(kL1 _ hu1).mono ?_));rintro e w2 ⟨v2,rfl,hF2,hu2,hb2⟩))
  go_ret;refine⟨_,rfl,hF2,O.upd hL1 hu2 HS.out,(hu1.mono (by simp +contextual)).trans (hu2.mono (fun g hg=>τ.2 (Or.inr hg))),fun g hg=>?_⟩;rcases hb2 g hg with h|h
  ·exact Or.inl h
  ·exact Or.inr (Nat.le_trans hu1.size h)
theorem gI.shape{w:World}{F:List Nat}{v:Value}{xs:List Int}(h:gI w F v xs):∃a cap,v=.slice a xs.length cap/\cap<=9223372036854775807:=by
 obtain⟨a,cap,rfl,_,h2,_⟩:=h;exact⟨a,cap,rfl,h2⟩
structure KM(O:uT)(w0 w:World)(bt ba lo n:Nat)(F0:List Nat)(va vb vn vo:Value)(C:CC):Prop where
 vC:∃S:CS,S.f=C.F/\aY w bt ba lo n S/\Apart O bt ba n S/\(∀g,g∈S.blk n->g∈F0\/w0.heap.size<g)/\(∀g,vn.ownBlock=some g->g∉S.blk n)/\(∀g,vo.ownBlock=some g->g∉S.blk n)
 les:O.at_ w C.q
 a:gI w0 F0 va C.A
 b:gI w0 F0 vb C.B
 box:aL w w0.heap.size 26 1 (fun _=>vb)
 now:bu w (w0.heap.size+1) vn C.N
 out:bu w (w0.heap.size+1) vo C.O
 sep:∀g,vn.ownBlock=some g->vo.ownBlock≠some g
 upd:aa F0 w0 w
 old:∀g,g∈F0->g<w0.heap.size
 L8:(∀x,x∈O.wr->x∈F0)/\ba∈F0
 t0:bt<w0.heap.size
 k0:∀x,x∈O.rd->x<w0.heap.size
theorem gI.head{w:World}{F:List Nat}{a:Option Addr}{n c:Nat}{x:Int}{xs:List Int}(h:gI w F (.slice a n c) (x::xs)):∃g off,a=some ⟨g,off,none⟩/\g<w.heap.size/\g∉F/\w.cell? ⟨g,off,none⟩=some (.int .i64 x):=by
 obtain⟨a',cap,he,_,_,h3⟩:=h;obtain⟨g,off,rfl,hg,hF,hc⟩:=h3 0 x rfl;cases he;exact⟨g,off,rfl,hg,hF,by rw[Nat.add_zero]at hc;exact hc⟩
theorem KM.deg{w0 w:World}{O:uT}{bt ba lo n:Nat}{F0:List Nat}{va vb vn vo:Value}{C:CC}(h:KM O w0 w bt ba lo n F0 va vb vn vo C)(x:Int) :
  Calls Tryz.prog 204 #[.pointer (some ⟨bt,0,none⟩),.int .i64 x] w fun e w'=>e=.returned (.int .i64 (dE n C.F x))/\w'=w:=by
 obtain⟨S,h1,h2,_⟩:=h.vC;have:=qN bt ba lo n S x w h2;rw[XL,h1]at this;exact this
theorem KM.far{w0 w:World}{O:uT}{bt ba lo n:Nat}{F0:List Nat}{va vb vn vo:Value}{C:CC}(h:KM O w0 w bt ba lo n F0 va vb vn vo C){g off:Nat}{u:Value}(hg:g<w0.heap.size)(hF:g∉F0)(hc:w0.cell? ⟨g,off,none⟩=some u){G:List Nat}{W:World}(hu:aa G w W)(hG:∀x,x∈G->w0.heap.size<=x) :
  W.cell? ⟨g,off,none⟩=some u:=by
 rw[hu.cell (Nat.lt_of_lt_of_le hg h.upd.size) (fun hm=>by have:=hG _ hm;simp at this;omega),h.upd.cell hg hF];exact hc
theorem KM.Qs{w0 w:World}{O:uT}{bt ba lo n:Nat}{F0:List Nat}{va vb vn vo:Value}{C:CC}(h:KM O w0 w bt ba lo n F0 va vb vn vo C){W:World}{vn':Value}{N':List Int}
  (hu:aa vn.ownBlock.toList w W) (ho:bu W (w0.heap.size+1) vn' N') (hb:∀g,vn'.ownBlock=some g->vn.ownBlock=some g\/w.heap.size<=g):KM O w0 W bt ba lo n F0 va vb vn' vo { C with N:=N' }:=by
 obtain⟨S,h1,h2,h3,h4,h5,h6⟩:=h.vC;have hn:∀g,g∈vn.ownBlock.toList->w0.heap.size<g/\g∉S.blk n/\vo.ownBlock≠some g:=fun g hg=>by
  have hg':vn.ownBlock=some g:=by simpa using hg
  exact⟨by have:=(h.now.lt g hg').1;omega,h5 g hg',h.sep g hg'⟩
 have hbt:=h.t0;have I8:=h.old ba h.L8.2;have hk:=h.k0;have hsz:=h.upd.size
 refine⟨⟨S,h1,h2.upd hu (fun hm=>by have:=hn _ hm;omega) (fun hm=>by have:=hn _ hm;omega) (fun g hg hm=>(hn g hm).2.1 hg),h3,h4,fun g hg hm=>?_,h6⟩,O.upd h.les hu (fun g hg hm=>by have:=hn g hg;have:=hk g hm;omega),h.a,h.b,h.box.upd hu (fun hm=>by have:=hn _ hm;omega),ho,
  h.out.upd hu (fun g hg hm=>(hn g hm).2.2 hg),fun g hg he=>?_,h.upd.joined hu (fun g hg=>Or.inr (by have:=hn g hg;omega)),h.old,h.L8,h.t0,h.k0⟩
 ·rcases hb g hg with h'|h'
  ·exact h5 g h' hm
  ·have:=(h2.nX hm).2;omega
 ·rcases hb g hg with h'|h'
  ·exact h.sep g h' he
  ·have:=(h.out.lt g he).2;omega
theorem KM.ace{w0 w:World}{O:uT}{bt ba lo n:Nat}{F0:List Nat}{va vb vn vo:Value}{C:CC}(h:KM O w0 w bt ba lo n F0 va vb vn vo C){W:World}{vo':Value}{O':List Int}
  (hu:aa vo.ownBlock.toList w W) (ho:bu W (w0.heap.size+1) vo' O') (hb:∀g,vo'.ownBlock=some g->vo.ownBlock=some g\/w.heap.size<=g):KM O w0 W bt ba lo n F0 va vb vn vo' { C with O:=O' }:=by
 obtain⟨S,h1,h2,h3,h4,h5,h6⟩:=h.vC;have hn:∀g,g∈vo.ownBlock.toList->w0.heap.size<g/\g∉S.blk n/\vn.ownBlock≠some g:=fun g hg=>by
  have hg':vo.ownBlock=some g:=by simpa using hg
  exact⟨by have:=(h.out.lt g hg').1;omega,h6 g hg',fun e=>h.sep g e hg'⟩
 have hbt:=h.t0;have I8:=h.old ba h.L8.2;have hk:=h.k0;have hsz:=h.upd.size
 refine⟨⟨S,h1,h2.upd hu (fun hm=>by have:=hn _ hm;omega) (fun hm=>by have:=hn _ hm;omega) (fun g hg hm=>(hn g hm).2.1 hg),h3,h4,h5,fun g hg hm=>?_⟩,O.upd h.les hu (fun g hg hm=>by have:=hn g hg;have:=hk g hm;omega),h.a,h.b,h.box.upd hu (fun hm=>by have:=hn _ hm;omega),
  h.now.upd hu (fun g hg hm=>(hn g hm).2.2 hg),ho,fun g hg he=>?_,h.upd.joined hu (fun g hg=>Or.inr (by have:=hn g hg;omega)),h.old,h.L8,h.t0,h.k0⟩
 ·rcases hb g hg with h'|h'
  ·exact h6 g h' hm
  ·have:=(h2.nX hm).2;omega
 ·rcases hb g he with h'|h'
  ·exact h.sep g hg h'
  ·have:=(h.now.lt g hg).2;omega
theorem KM.aTo{w0 w:World}{O:uT}{bt ba lo n:Nat}{F0:List Nat}{va vb vn vo va':Value}{C:CC}(h:KM O w0 w bt ba lo n F0 va vb vn vo C){A':List Int}(ha:gI w0 F0 va' A'):KM O w0 w bt ba lo n F0 va' vb vn vo { C with A:=A' }:=
 ⟨h.vC,h.les,ha,h.b,h.box,h.now,h.out,h.sep,h.upd,h.old,h.L8,h.t0,h.k0⟩
theorem KM.bTo{w0 w:World}{O:uT}{bt ba lo n:Nat}{F0:List Nat}{va vb vn vo XB:Value}{C:CC}(h:KM O w0 w bt ba lo n F0 va vb vn vo C){B':List Int}(hb:gI w0 F0 XB B') :
  KM O w0 (w.setCell ⟨w0.heap.size,0,none⟩ XB) bt ba lo n F0 va XB vn vo { C with B:=B' }:=by
 obtain⟨S,h1,h2,h3,h4,h5,h6⟩:=h.vC;have hu:aa [w0.heap.size] w (w.setCell ⟨w0.heap.size,0,none⟩ XB):=(aa.refl _ _).setCell (Or.inl σ) _;have hbt:=h.t0;have I8:=h.old ba h.L8.2;have hk:=h.k0;refine⟨⟨S,h1,h2.upd hu ζ ζ (fun g hg hm=>?_),h3,h4,h5,h6⟩,O.upd h.les hu (fun g hg hm=>by have:=hk g hm;simp at hg;omega),h.a,hb,(h.box.set 0 XB).ext (fun j hj=>ζ),h.now.upd hu (fun g hg hm=>?_),h.out.upd hu (fun g hg hm=>?_),h.sep,h.upd.joined hu (fun g hg=>Or.inr (by simp at hg;omega)),h.old,h.L8,h.t0,h.k0⟩
 ·simp at hm;subst hm;rcases h4 _ hg with h'|h'
  ·have:=h.old _ h';omega
  ·omega
 ·have:=(h.now.lt g hg).1;simp at hm;omega
 ·have:=(h.out.lt g hg).1;simp at hm;omega
theorem KM.ZM{w0 w:World}{O:uT}{bt ba lo n:Nat}{F0:List Nat}{va vb vn vo:Value}{C:CC}(h:KM O w0 w bt ba lo n F0 va vb vn vo C){S:CS}(hS:S.f=C.F)(h2:aY w bt ba lo n S)(h3:Apart O bt ba n S)
  (h4:∀g,g∈S.blk n->g∈F0\/w0.heap.size<g) (h6:∀g,vo.ownBlock=some g->g∉S.blk n) {W:World} {v:Value} {a b:Nat} (hF:aY W bt ba lo n (oN S v a b)) (hL:O.at_ W (C.q+1)) (hu:aa (O.wr++ba::S.blk n) w W)
  (hg:∀g,g∈(oN S v a b).blk n->g∈S.blk n\/w.heap.size<=g) :
  KM O w0 (W.alloc (.cells #[.int .i64 (a:Int)] 3)) bt ba lo n F0 va vb (.slice (some ⟨W.heap.size,0,none⟩) 1 1) vo { C with F:=iA C.F a b,N:=[(a:Int)],q:=C.q+1 }:=by
 have hbt:=h.t0;have I8:=h.old ba h.L8.2;have hk:=h.k0;have hbx:=h.box.lt;have hsz:=hu.size;have hm:∀g,g∈O.wr++ba::S.blk n->g∈F0\/w0.heap.size<g:=fun g hg=>by
  rcases τ.1 hg with hg|hg
  ·exact Or.inl (h.L8.1 _ hg)
  ·rcases ρ.1 hg with rfl|hg
   ·exact Or.inl h.L8.2
   ·exact h4 g hg
 have hvo:∀g,vo.ownBlock=some g->g∉O.wr++ba::S.blk n:=fun g hg hm=>by
  have:=(h.out.lt g hg).1;rcases τ.1 hm with hm|hm
  ·have:=hk _ (O.sub _ hm);omega
  ·rcases ρ.1 hm with rfl|hm
   ·omega
   ·exact h6 g hg hm
 have ha:aa [] W (W.alloc (.cells #[.int .i64 (a:Int)] 3)):=(aa.refl _ _).alloc _;have hb:w0.heap.size∉O.wr++ba::S.blk n:=fun hm2=>by
  rcases hm _ hm2 with h'|h'
  ·have:=h.old _ h';omega
  ·omega
 refine⟨⟨oN S v a b,by rw[Y5,hS],hF.au ha,⟨h3.bt,h3.ba,fun g hg1 hm=>?_⟩,fun g hgm=>?_,fun g hg1 hgm=>?_,fun g hg1 hgm=>?_⟩,O.upd hL ha σ,h.a,h.b,(h.box.upd hu hb).upd ha σ,bu.lit W _ a ω,
  (h.out.upd hu hvo).upd ha σ,fun g hg1 hg2=>?_,(h.upd.joined hu (fun g hg=>by rcases hm g hg with h'|h';exact Or.inl h';exact Or.inr ω)).then ha,h.old,h.L8,h.t0,h.k0⟩
 ·rcases hg _ hg1 with h'|h'
  ·exact h3.blk g h' hm
  ·have:=hk _ hm;omega
 ·rcases hg g hgm with h'|h'
  ·exact h4 g h'
  ·exact Or.inr ω
 ·simp[Value.ownBlock]at hg1;have:=(hF.nX hgm).2;omega
 ·rcases hg g hgm with h'|h'
  ·exact h6 g hg1 h'
  ·have:=(h.out.lt g hg1).2;omega
 ·simp[Value.ownBlock]at hg1;have:=(h.out.lt g hg2).2;omega
set_option maxRecDepth 100000 in
theorem Pn(Od:uT)(bt ba lo n:Nat)(S0:CS)(va vb:Value)(A B:List Int)(q0:Nat)(w:World)(h:aY w bt ba lo n S0)(hO:Od.at_ w q0)(hap:Apart Od bt ba n S0)(hbt:bt<w.heap.size)
    (ha:gI w (Od.wr++ba::S0.blk n) va A) (hb:gI w (Od.wr++ba::S0.blk n) vb B) (hrA:Ot n S0 A=true) (hrB:Ot n S0 B=true) (hno:A.any (fun x=>decide (x∈B))=false)
    (hok:∀k,MP Od.dom Od.lt n k (gV Od.lt n k ⟨S0.f,A,B,[],[],q0⟩)) :
    Calls Tryz.prog 194 #[.pointer (some ⟨bt,0,none⟩),.iface Od.ty (.pointer (some ⟨Od.p,0,none⟩)),va,vb] w fun e w'=>
      ∃k vn va' XB vo,e=.returned (.tuple #[vo,.bool true])/\KM Od w w' bt ba lo n (Od.wr++ba::S0.blk n) va' XB vn vo (gV Od.lt n k ⟨S0.f,A,B,[],[],q0⟩)/\(gV Od.lt n k ⟨S0.f,A,B,[],[],q0⟩).A=[]/\(gV Od.lt n k ⟨S0.f,A,B,[],[],q0⟩).B=[]/\(gV Od.lt n k ⟨S0.f,A,B,[],[],q0⟩).N=[]:=by
  have hle:=h.le;have hu1:∀v,aa [] w (w.alloc (.cells #[v] 26)):=fun v=>(aa.refl _ _).alloc _;have hbx:=dP w [vb] 26;have kA:=Tx bt ba lo n S0 va A (w.alloc (.cells #[vb] 26)) (h.au (hu1 vb)) _ (ha.upd (hu1 vb) σ);have kB:=Tx bt ba lo n S0 vb B (w.alloc (.cells #[vb] 26)) (h.au (hu1 vb)) _ (hb.upd (hu1 vb) σ);have kF:=BJ (w.alloc (.cells #[vb] 26)) _ w.heap.size va vb A B (ha.upd (hu1 vb) σ) (hb.upd (hu1 vb) σ) (hbx.ext (fun j hj=>by simp at hj;subst hj;rfl));rw[hrA]at kA;rw[hrB]at kB;rw[hno]at kF;have hold:∀g,g∈Od.wr++ba::S0.blk n->g<w.heap.size:=fun g hg=>by
    rcases τ.1 hg with hg|hg
    · exact Od.low hO _ (Od.sub _ hg)
    · rcases ρ.1 hg with rfl|hg
      · exact h.row.lt
      · exact(h.nX hg).2
  have hM:KM Od w (w.alloc (.cells #[vb] 26)) bt ba lo n (Od.wr++ba::S0.blk n) va vb (.slice none 0 0) (.slice none 0 0) (gV Od.lt n 0 ⟨S0.f,A,B,[],[],q0⟩):=
    ⟨⟨S0,rfl,h.au (hu1 vb),hap,(fun g hg=>Or.inl (by simp[hg])),(fun g hg=>by cases hg),(fun g hg=>by cases hg)⟩,Od.upd hO (hu1 vb) σ,ha,hb,hbx.ext (fun j hj=>by simp at hj;subst hj;rfl),bu.nil _ _,bu.nil _ _,(fun g hg=>by cases hg),(aa.refl _ _).alloc _,hold,⟨fun x hx=>τ.2 (Or.inl hx),σ⟩,hbt,fun x hx=>Od.low hO x hx⟩
  have HOK:=χ hok;have YY:=χ hM;have sa:=ha.shape;have sb:=hb.shape;obtain⟨a1,c1,rfl,hc1⟩:=sa;obtain⟨b1,d1,rfl,hd1⟩:=sb;clear hok hM ha hb hbx h hO hap hrA hrB hno hold;generalize hF0:Od.wr++ba::S0.blk n=F0 at *;clear hF0;generalize hC0:(⟨S0.f,A,B,[],[],q0⟩:CC)=C0 at *;clear hC0
  go_enter Tryz.func194,Tryz.ntmps194
  go_wp2_with (first
    | (go_at_call 200;(with_reducible refine(kA).mono ?_);rintro e w9 ⟨rfl,aJ⟩;rw[aJ];clear aJ w9)
    | (go_at_call 200;(with_reducible refine(kB).mono ?_);rintro e w9 ⟨rfl,aJ⟩;rw[aJ];clear aJ w9)
    | (go_at_call 201;(with_reducible refine(kF).mono ?_);rintro e w9 ⟨rfl,aJ⟩;rw[aJ];clear aJ w9))
  clear kA kB kF
  go_loopw [2,10,11,12] (fun s2 s10 s11 s12 wr=>∃ (k:Nat) (vb:Value),s12=.int .i64 (k:Int)/\k<=n+1/\KM Od w wr bt ba lo n F0 s2 vb s11 s10 (gV Od.lt n k C0)) (fun _ _ _ s12 _=>n+2-(intOf s12).toNat)
  case atStart=>exact⟨0,_,rfl,ω,YY.out⟩
  case round=>
    obtain⟨k,vb,rfl,hk,hM⟩:=hrel;have hok:=HOK.out k;generalize hC:gV Od.lt n k C0=C at *;have HC:=χ hC;clear hC;obtain⟨F,A,B,N,O,q⟩:=C;obtain⟨a2,c2,rfl,hc2⟩:=hM.a.shape;obtain⟨b2,d2,rfl,hd2⟩:=hM.b.shape;obtain⟨n2,e2,rfl,hn2,he2,_⟩:=hM.now.shape;have hbx:=hM.box.cell 0 ω;have hsm:=hok.small;have hfw:=hok.few;simp only at hsm hfw
    by_cases hemp:A=[]/\B=[]/\N=[]
    · obtain⟨rfl,rfl,rfl⟩:=hemp
      obtain⟨o2,f2,rfl,_⟩:=hM.out.shape;have HM:=χ hM;clear hM hok;go_wp2;go_ret2;exact⟨k,_,_,_,_,rfl,by rw[HC.out];exact HM.out,by rw[HC.out],by rw[HC.out],by rw[HC.out]⟩
    · have hpos:0<A.length+B.length+N.length:=by
        rcases A with _|⟨x,t⟩
        · rcases B with _|⟨x,t⟩
          · rcases N with _|⟨x,t⟩
            · exact absurd ⟨rfl,rfl,rfl⟩ hemp
            · simp
          · simp;omega
        · simp;omega
      have hkn:k<=n:=hok.ends (by
        rcases A with _|⟨x,t⟩
        · rcases B with _|⟨x,t⟩
          · rcases N with _|⟨x,t⟩
            · exact absurd ⟨rfl,rfl,rfl⟩ hemp
            · exact Or.inr (Or.inr σ)
          · exact Or.inr (Or.inl σ)
        · exact Or.inl σ)
      have HOKK:=χ hok;have HM:=χ hM;clear hemp hok hM
      go_upto_region 7 with(fail)
      go_cut [50] (fun s50 wx=>s50=.bool (tA n k A F)/\KM Od w wx bt ba lo n F0 (.slice a2 A.length c2) (.slice b2 B.length d2) (.slice n2 N.length e2) u10 ⟨F,A,B,N,O,q⟩)
      case first=>
        rcases A with _|⟨x,t⟩
        · go_wp2_with fail
          go_meet
          exact⟨rfl,HM.out⟩
        · obtain⟨ga,oa,rfl,hgl,Fs,hc⟩:=HM.out.a.head
          have hc1:=HM.out.far hgl Fs hc (aa.refl [] _) σ;have kD:=HM.out.deg x;have Lb:tA n k (x::t) F=(dE n F x == (k:Int)):=rfl;have HT:=χ Lb;simp only at kD;clear Lb hc;generalize dE n F x=d at *
          go_wp2_with ((go_at_call 204;(with_reducible refine(kD).mono ?_);rintro e w9 ⟨rfl,aJ⟩;rw[aJ];clear aJ w9))
          go_meet
          exact⟨by rw[HT.out],HM.out⟩
      case rest=>
        obtain⟨rfl,hM1⟩:=hcut;have jT:=χ hM1;clear hM1 HM hbx
        go_upto_if 50 with(fail)
        go_cut [2,11] (fun s2 s11 wx=>∃vb,KM Od w wx bt ba lo n F0 s2 vb s11 u10 (takeA n k ⟨F,A,B,N,O,q⟩))
        case first=>
          cases Lb:tA n k A F with
          | false=>
            go_wp2_with fail
            go_meet
            have e:takeA n k ⟨F,A,B,N,O,q⟩=⟨F,A,B,N,O,q⟩:=by
              rcases A with _|⟨x,t⟩
              · rfl
              · unfold takeA;simp only;rw[if_neg (by simpa[tA]using Lb)]
            rw[e];exact⟨_,jT.out⟩
          | true=>
            rcases A with _|⟨x,t⟩
            · cases Lb
            · have e:takeA n k ⟨F,x::t,B,N,O,q⟩=⟨F,t,B,N++[x],O,q⟩:=by
                unfold takeA;simp only;rw[if_pos (by simpa[tA]using Lb)]
              obtain⟨ga,oa,rfl,hgl,Fs,hc⟩:=jT.out.a.head;have hown:∀g,g∈(Value.slice n2 N.length e2).ownBlock.toList->w.heap.size<=g:=fun g hg=>by have:=(jT.out.now.lt g (by simpa using hg)).1;omega
              have r1:∀W,aa (Value.slice n2 N.length e2).ownBlock.toList wc W->W.cell? ⟨ga,oa,none⟩=some (.int .i64 x):=fun W hW=>jT.out.far hgl Fs hc hW hown;have s0:aa (Value.slice n2 N.length e2).ownBlock.toList wc wc.drew:=(aa.refl _ _).drew;have hsl:=fun W=>xq W (some ⟨ga,oa,none⟩) (t.length+1) c2 ω (by simp at hsm;omega);have Fu:=(show gI w F0 (.slice (some ⟨ga,oa,none⟩) (t.length+1) c2) (x::t)from jT.out.a).tail;obtain⟨a3,Ah⟩:=qO (some ⟨ga,oa,none⟩) (t.length+1) c2;rw[Ah]at hsl Fu;simp only[Nat.add_sub_cancel]at hsl Fu;have HTA:=χ Fu;have hno:=jT.out.now;have E:=χ e
              clear Fu e Lb Ah hc
              go_wp2_with fail
              go_region_held3 (fun W=>aa (Value.slice n2 N.length e2).ownBlock.toList wc W)
                (first|assumption|exact(aa.refl _ _).drew|(have hS:=(by assumption:aa _ _ _);exact hS.alloc _))
                (first
                  | (have hS:=s0.alloc (.cells #[.int .i64 x] 3)
                     refine rE rfl _ _ 26 rfl Tryz.underlying26 (w.heap.size+1) (.slice n2 N.length e2) N rfl (hno.upd ((aa.refl [] _).drew.alloc (.cells #[.int .i64 x] 3)) σ) wc.heap.size x rfl (mP wc [.int .i64 x] 3 0 _ rfl) ω (by have:=jT.out.upd.size;have:=jT.out.box.lt;simp;omega) ?_;intro v2 w2 ho2 hu2 hv2
                     have hS2:aa (Value.slice n2 N.length e2).ownBlock.toList wc w2:=hS.trans hu2))
              go_wp2_with fail
              go_meet
              rw[E.out];exact⟨_,(jT.out.Qs hS2 ho2 (fun g hg=>by rcases hv2 g hg with h|h;exact Or.inl h;exact Or.inr (by simp at h;omega))).aTo HTA.out⟩
        case rest=>
          have hT1:=xW n k ⟨F,A,B,N,O,q⟩;generalize jr:takeA n k ⟨F,A,B,N,O,q⟩=C1 at *;have HC1:=χ jr;clear jr jT;obtain⟨F1,A1,B1,N1,O1,q1⟩:=C1;have hs1:A1.length+B1.length+N1.length+O1.length<=100001/\N1.length<=2:=by
            obtain⟨h1,h2⟩:=hT1;unfold tot at h1;simp only at h1 h2;omega
          obtain⟨hs1,hf1⟩:=hs1;obtain⟨vb1,hcut⟩:=hcut;obtain⟨a5,c5,rfl,hc5⟩:=hcut.a.shape;obtain⟨b5,d5,rfl,hd5⟩:=hcut.b.shape;obtain⟨n5,e5,rfl,OU,he5,_⟩:=hcut.now.shape;simp only at OU;have hbx:=hcut.box.cell 0 ω;have jT:=χ hcut;clear hcut hT1 hsm hfw hpos
          go_upto_region 9 with(fail)
          go_cut [70] (fun s70 wx=>s70=.bool (tA n k B1 F1)/\KM Od w wx bt ba lo n F0 (.slice a5 A1.length c5) (.slice b5 B1.length d5) (.slice n5 N1.length e5) u10 ⟨F1,A1,B1,N1,O1,q1⟩)
          case first=>
            rcases B1 with _|⟨x,t⟩
            · go_wp2_with fail
              go_meet
              exact⟨rfl,jT.out⟩
            · obtain⟨ga,oa,rfl,hgl,Fs,hc⟩:=jT.out.b.head
              have hc1:=jT.out.far hgl Fs hc (aa.refl [] _) σ;have kD:=jT.out.deg x;have Lb:tA n k (x::t) F1=(dE n F1 x == (k:Int)):=rfl;have HT:=χ Lb;simp only at kD;clear Lb hc;generalize dE n F1 x=d at *
              go_wp2_with ((go_at_call 204;(with_reducible refine(kD).mono ?_);rintro e w9 ⟨rfl,aJ⟩;rw[aJ];clear aJ w9))
              go_meet
              exact⟨by rw[HT.out],jT.out⟩
          case rest=>
            obtain⟨rfl,hM2⟩:=hcut;have hbx:=hM2.box.cell 0 ω;have hbf:=hM2.box.free 0;have nR:=χ hM2;clear hM2 jT
            go_upto_if 70 with(fail)
            go_cut [11] (fun s11 wx=>∃vb,KM Od w wx bt ba lo n F0 (.slice a5 A1.length c5) vb s11 u10 (takeB n k ⟨F1,A1,B1,N1,O1,q1⟩))
            case first=>
              cases Lb:tA n k B1 F1 with
              | false=>
                go_wp2_with fail
                go_meet
                have e:takeB n k ⟨F1,A1,B1,N1,O1,q1⟩=⟨F1,A1,B1,N1,O1,q1⟩:=by
                  rcases B1 with _|⟨x,t⟩
                  · rfl
                  · unfold takeB;simp only;rw[if_neg (by simpa[tA]using Lb)]
                rw[e];exact⟨_,nR.out⟩
              | true=>
                rcases B1 with _|⟨x,t⟩
                · cases Lb
                · have e:takeB n k ⟨F1,A1,x::t,N1,O1,q1⟩=⟨F1,A1,t,N1++[x],O1,q1⟩:=by
                    unfold takeB;simp only;rw[if_pos (by simpa[tA]using Lb)]
                  obtain⟨ga,oa,rfl,hgl,Fs,hc⟩:=nR.out.b.head;have hown:∀g,g∈(Value.slice n5 N1.length e5).ownBlock.toList->w.heap.size<g:=fun g hg=>by have:=(nR.out.now.lt g (by simpa using hg)).1;omega
                  have r1:∀W,aa (Value.slice n5 N1.length e5).ownBlock.toList wc W->W.cell? ⟨ga,oa,none⟩=some (.int .i64 x):=fun W hW=>nR.out.far hgl Fs hc hW (fun g hg=>by have:=hown g hg;omega);have r2:∀W,aa (Value.slice n5 N1.length e5).ownBlock.toList wc W->W.cell? ⟨w.heap.size,0,none⟩=some (.slice (some ⟨ga,oa,none⟩) (x::t).length d5):=fun W hW=>by rw[hW.cell nR.out.box.lt (fun hm=>by have:=hown _ hm;simp at this)];exact hbx
                  have r3:∀W,aa (Value.slice n5 N1.length e5).ownBlock.toList wc W->W.frozen? ⟨w.heap.size,0,none⟩=false:=fun W hW=>by rw[hW.frozen nR.out.box.lt (fun hm=>by have:=hown _ hm;simp at this)];exact hbf
                  have s0:aa (Value.slice n5 N1.length e5).ownBlock.toList wc wc:=aa.refl _ _;have p1:=r1 _ s0;have p3:=r1 _ (s0.alloc (.cells #[.int .i64 x] 3));have p4:=r2 _ (s0.alloc (.cells #[.int .i64 x] 3));have hsl:=fun W=>xq W (some ⟨ga,oa,none⟩) (t.length+1) d5 ω (by simp at hs1;omega);have Fu:=(show gI w F0 (.slice (some ⟨ga,oa,none⟩) (t.length+1) d5) (x::t)from nR.out.b).tail;obtain⟨a3,Ah⟩:=qO (some ⟨ga,oa,none⟩) (t.length+1) d5;rw[Ah]at hsl Fu;simp only[Nat.add_sub_cancel]at hsl Fu;have HTA:=χ Fu;have hno:=nR.out.now;have E:=χ e;clear Fu e Lb Ah hc
                  go_wp2_with fail
                  go_region_law
                    (first
                      | (refine rE rfl _ _ 26 rfl Tryz.underlying26 (w.heap.size+1) (.slice n5 N1.length e5) N1 rfl (hno.upd ((aa.refl [] _).drew.alloc (.cells #[.int .i64 x] 3)) σ) wc.heap.size x rfl (mP wc [.int .i64 x] 3 0 _ rfl) ω (by have:=nR.out.upd.size;have:=nR.out.box.lt;simp;omega) ?_
                         intro v2 w2 ho2 hu2 hv2;have hS2:aa (Value.slice n5 N1.length e5).ownBlock.toList wc w2:=(s0.drew.alloc (.cells #[.int .i64 x] 3)).trans hu2;have g1:=r1 _ hS2;have g2:=r2 _ hS2
                         have g3:=r3 _ hS2))
                  all_goals
                    go_wp2_with fail
                    go_meet
                    rw[E.out];exact⟨_,(nR.out.Qs hS2 ho2 (fun g hg=>by rcases hv2 g hg with h|h;exact Or.inl h;exact Or.inr (by simp at h;omega))).bTo HTA.out⟩
            case rest=>
              have hT1:=xO n k ⟨F1,A1,B1,N1,O1,q1⟩;generalize hC2:takeB n k ⟨F1,A1,B1,N1,O1,q1⟩=C2 at *;have HC2:=χ hC2;clear hC2 nR;obtain⟨F2,A2,B2,N2,O2,q2⟩:=C2;have hs2:A2.length+B2.length+N2.length+O2.length<=100001/\N2.length<=3:=by
                obtain⟨h1,h2⟩:=hT1;unfold tot at h1;simp only at h1 h2;omega
              obtain⟨hs2,hf2⟩:=hs2;obtain⟨vb2,hcut⟩:=hcut;obtain⟨n6,e6,rfl,hn6,he6,_⟩:=hcut.now.shape;obtain⟨o6,p6,rfl,ho6,hp6,_⟩:=hcut.out.shape;simp only at hn6;have Kh:=χ hcut;clear hcut hT1 hs1 hf1
              go_upto_region 11 with(fail)
              go_cut [82] (fun s82 wx=>s82=.bool (N2.length % 2 == 1)/\KM Od w wx bt ba lo n F0 (.slice a5 A1.length c5) vb2 (.slice n6 N2.length e6) (.slice o6 O2.length p6) ⟨F2,A2,B2,N2,O2,q2⟩)
              case first=>
                have key:∀m:Nat,N2.length=m->N2.length % 2=m % 2:=fun m h=>by rw[h]
                match N2,hf2 with
                | [],_=>go_wp2_with fail;go_meet;exact⟨σ,Kh.out⟩
                | [x],_=>go_wp2_with fail;go_meet;exact⟨σ,Kh.out⟩
                | [x,y],_=>go_wp2_with fail;go_meet;exact⟨σ,Kh.out⟩
                | [x,y,z],_=>go_wp2_with fail;go_meet;exact⟨σ,Kh.out⟩
                | _::_::_::_::_,hf2=>simp at hf2;try omega
              case rest=>
                obtain⟨rfl,rW⟩:=hcut;have PX:=χ rW;clear rW Kh
                go_upto_if 82 with(fail)
                go_cut [10,11] (fun s10 s11 wx=>∃va vb,va=.slice a5 A1.length c5/\KM Od w wx bt ba lo n F0 va vb s11 s10 (fO ⟨F2,A2,B2,N2,O2,q2⟩))
                case first=>
                  cases Uv:(N2.length % 2 == 1)with
                  | false=>
                    go_wp2_with fail
                    go_meet
                    have e:fO ⟨F2,A2,B2,N2,O2,q2⟩=⟨F2,A2,B2,N2,O2,q2⟩:=by
                      match N2,hf2,Uv with
                      | [],_,_=>rfl
                      | [x],_,Uv=>simp at Uv
                      | [x,y],_,_=>rfl
                      | [x,y,z],_,Uv=>simp at Uv
                      | _::_::_::_::_,hf2,_=>simp at hf2;try omega
                    rw[e];exact⟨_,_,rfl,PX.out⟩
                  | true=>
                    rcases N2 with _|⟨x,r⟩
                    · simp at Uv
                    · have e:fO ⟨F2,A2,B2,x::r,O2,q2⟩=⟨F2,A2,B2,r,O2++[x],q2⟩:=by
                        match r,hf2,Uv with
                        | [],_,_=>rfl
                        | [y],_,Uv=>simp at Uv
                        | [y,z],_,_=>rfl
                        | _::_::_::_,hf2,_=>simp at hf2;try omega
                      obtain⟨n7,e7,he7,hn7,_,hcells⟩:=PX.out.now.shape;obtain⟨gn,on,rfl,hc0⟩:=hcells 0 x rfl;cases he7;rw[Nat.add_zero]at hc0;have hsl:=fun W=>xq W (some ⟨gn,on,none⟩) (r.length+1) e6 ω (by simp at hs2;omega);have hno:=fun W (h:bu W (w.heap.size+1) (.slice (some ⟨gn,on,none⟩) (r.length+1) e6) (x::r))=>h.tail;obtain⟨a3,Ah⟩:=qO (some ⟨gn,on,none⟩) (r.length+1) e6;rw[Ah]at hsl hno;simp only[Nat.add_sub_cancel]at hsl hno;have XI:=χ hno;have wI:=PX.out.out;have E:=χ e;clear hno e Uv Ah hcells
                      go_wp2_with (at_builtin;refine xB rfl _ _ 26 rfl Tryz.underlying26 (w.heap.size+1) (.slice o6 O2.length p6) O2 rfl (wI.upd ((aa.refl [] _).alloc (.cells #[.int .i64 x] 3)) σ) wc.heap.size x rfl (mP wc [.int .i64 x] 3 0 _ rfl) ω (by have:=PX.out.upd.size;have:=PX.out.box.lt;simp;omega) ?_;intro v2 w2 ho2 hu2 hv2)
                      go_meet
                      have hS2:aa (Value.slice o6 O2.length p6).ownBlock.toList wc w2:=((aa.refl _ _).alloc (.cells #[.int .i64 x] 3)).trans hu2;have hm1:=PX.out.ace hS2 ho2 (fun g hg=>by rcases hv2 g hg with h|h;exact Or.inl h;exact Or.inr (by simp at h;omega));have hm2:=hm1.Qs (aa.refl _ _) (XI.out _ hm1.now).1 (fun g hg=>by rw[(XI.out _ hm1.now).2]at hg;exact Or.inl hg);rw[E.out];exact⟨_,_,rfl,hm2⟩
                case rest=>
                  have hT1:=Pm ⟨F2,A2,B2,N2,O2,q2⟩ hf2;have LY:=HOKK.out.join;rw[HC1.out,HC2.out]at LY;generalize yU:fO ⟨F2,A2,B2,N2,O2,q2⟩=C3 at *;have HC3:=χ yU;clear yU PX;obtain⟨F3,A3,B3,N3,O3,q3⟩:=C3;simp only at LY;obtain⟨hT1,hf3⟩:=hT1;simp only at hf3;obtain⟨va3,vb3,rfl,hcut⟩:=hcut;obtain⟨n8,e8,rfl,hn8,he8,_⟩:=hcut.now.shape;obtain⟨o8,p8,rfl,ho8,hp8,_⟩:=hcut.out.shape;simp only at hn8;have vQ:=χ hcut;have HJ:=χ LY;clear hcut hT1 hs2 hf2 LY
                  go_upto_region 14 with(fail)
                  go_cut [93] (fun s93 wx=>s93=.bool (N3.length == 2)/\KM Od w wx bt ba lo n F0 (.slice a5 A1.length c5) vb3 (.slice n8 N3.length e8) (.slice o8 O3.length p8) ⟨F3,A3,B3,N3,O3,q3⟩)
                  case first=>
                    match N3,hf3 with
                    | [],_=>go_wp2_with fail;go_meet;exact⟨σ,vQ.out⟩
                    | [x],_=>go_wp2_with fail;go_meet;exact⟨σ,vQ.out⟩
                    | [x,y],_=>go_wp2_with fail;go_meet;exact⟨σ,vQ.out⟩
                    | _::_::_::_,hf3=>simp at hf3;try omega
                  case rest=>
                    obtain⟨rfl,uG⟩:=hcut;have wT:=χ uG;clear uG vQ;have hst:Gs Od.lt n k ⟨F,A,B,N,O,q⟩=nz Od.lt ⟨F3,A3,B3,N3,O3,q3⟩:=by
                      unfold Gs;rw[HC1.out,HC2.out,HC3.out]
                    have hru:gV Od.lt n (k+1) C0=nz Od.lt ⟨F3,A3,B3,N3,O3,q3⟩:=by rw[gV,HC.out,hst]
                    have hq3:q3<=1000000:=by
                      have h:=SG n k ⟨F,A,B,N,O,q⟩;rw[HC1.out,HC2.out,HC3.out]at h;simp only at h;rw[h];exact HOKK.out.asked
                    have YV:=χ hru;clear hst hru HC1 HC2 HC3
                    match N3,hf3,HJ,wT,YV with
                    | [],_,_,wT,YV=>
                      go_wp2_with fail
                      go_roundw
                      case rel=>exact⟨k+1,_,by go_num,ω,by rw[YV.out];exact wT.out⟩
                      case measure=>simp[intOf];omega
                    | [x],_,_,wT,YV=>
                      go_wp2_with fail
                      go_roundw
                      case rel=>exact⟨k+1,_,by go_num,ω,by rw[YV.out];exact wT.out⟩
                      case measure=>simp[intOf];omega
                    | [x,y],_,HJ,wT,YV=>
                      obtain⟨a,b,rfl,rfl,hda,hdb,hja,hjb,hjne,hjra,hjrb,hjd,hjl1,Xa⟩:=HJ.out x y rfl;obtain⟨S,hSf,hFo,hAp,hS4,hS5,hS6⟩:=wT.out.vC;obtain⟨n9,e9,he9,hn9,_,hcells⟩:=wT.out.now.shape;obtain⟨gn,on,rfl,hc0⟩:=hcells 0 (a:Int) rfl;obtain⟨gn2,on2,heq,hc1⟩:=hcells 1 (b:Int) rfl;cases heq;cases he9;rw[Nat.add_zero]at hc0;simp only at hSf;rw[←hSf]at hjra hjrb hjd hjl1 Xa;have hgn:∀g,g∈Od.wr++ba::S.blk n->g≠gn:=fun g hg e=>by
                        subst e;have hl:=(wT.out.now.lt g rfl).1;rcases τ.1 hg with hg|hg
                        · have:=wT.out.old _ (wT.out.L8.1 _ hg);omega
                        · rcases ρ.1 hg with rfl|hg
                          · have:=wT.out.old _ wT.out.L8.2;omega
                          · exact hS5 g rfl hg
                      have hgl:=(wT.out.now.lt gn rfl).2;have r1:∀W,aa (Od.wr++ba::S.blk n) wc W->W.cell? ⟨gn,on,none⟩=some (.int .i64 (a:Int)):=fun W hW=>by rw[hW.cell hgl (fun hm=>hgn _ hm rfl)];exact hc0
                      have r2:∀W,aa (Od.wr++ba::S.blk n) wc W->W.cell? ⟨gn,on+1,none⟩=some (.int .i64 (b:Int)):=fun W hW=>by rw[hW.cell hgl (fun hm=>hgn _ hm rfl)];exact hc1
                      have kJ:=TR Od bt ba lo n S q3 a b wc.drew (hFo.au (aa.refl [] _).drew) (Od.upd wT.out.les (aa.refl [] _).drew σ) hda hdb hq3 hja hjb hjra hjrb hjne hjd hjl1 Xa hAp;clear hcells
                      go_wp2_with fail
                      go_region_held3 (fun W=>aa (Od.wr++ba::S.blk n) wc W)
                        (first|assumption|exact(aa.refl _ _).drew|(have hS:=(by assumption:aa _ _ _);exact hS.alloc _))
                        (first
                          | ((go_at_call 205;(with_reducible refine(kJ).mono ?_));rintro e w2 ⟨v2,rfl,hF2,hL2,hu2,hg2⟩;have hS2:aa (Od.wr++ba::S.blk n) wc w2:=(aa.refl _ _).drew.trans hu2))
                      go_wp2_with fail
                      go_roundw
                      case rel=>
                        refine⟨k+1,vb3,by go_num,ω,?_⟩;rw[YV.out];exact wT.out.ZM hSf hFo hAp hS4 hS6 hF2 hL2 hS2 hg2
                      case measure=>simp[intOf];omega
                    | _::_::_::_,hf3,_,_,_=>simp at hf3;try omega
end Go.Proofs.YtklibcncmbofpaaGreat
namespace Go.Proofs.YtklibcncmbofpaaGreat
theorem sU:∀ (n:Nat) (l:List Int),l.Nodup->(∀x,x∈l->0<=x/\x<n)->l.length<=n
 | 0,l,_,h=>by
  cases l with
  | nil=>simp
  | cons x r=>have:=h x σ;omega
 | n+1,l,hn,h=>by
  have h1:=sU n (l.filter (fun x=>x != (n:Int))) (hn.filter _) (fun x hx=>by
   simp only[List.mem_filter]at hx;have:=h x hx.1;have h2:x≠n:=by simpa using hx.2
   omega)
  have h2:l.length<=(l.filter (fun x=>x != (n:Int))).length+1:=by
   clear h1 h
   induction l with
   | nil=>simp
   | cons y r ih=>
    rw[List.nodup_cons]at hn
    by_cases hy:y=n
    ·subst hy;have e:r.filter (fun x=>x != (n:Int))=r:=by
      rw[List.filter_eq_self];intro a ha;simp;intro e;subst e;exact hn.1 ha
     rw[List.filter_cons_of_neg σ,e];simp
    ·have:=ih hn.2;rw[List.filter_cons_of_pos (by simpa using hy)];simp only[List.length_cons];omega
  omega
structure oK(n:Nat)(F:CF):Prop where
 wy:∀x,x<n->∀y,y∈F.k x->0<=y/\y<n/\F.u y.toNat=x
 nd:∀x,x<n->(F.k x).Nodup
 up:∀y,y<n->F.u y=-1\/∃p:Nat,p<n/\F.u y=p/\(y:Int)∈F.k p
 yu:∀x,x<n->∀i z,(F.k x)[i]?=some z->(F.k z.toNat).length=i
theorem QV(n:Nat):oK n CS.none.f:=⟨fun x _ y hy=>(by cases hy),fun x _=>List.nodup_nil,fun y _=>Or.inl rfl,fun x _ i z h=>by simp[CS.none,CS.f]at h⟩
theorem oK.self{n:Nat}{F:CF}(h:oK n F){x:Nat}(hx:x<n):(x:Int)∉F.k x:=fun hm=>by
 obtain⟨i,hi,he⟩:=List.getElem_of_mem hm;have:=h.yu x hx i x (by rw[ε hi,he]);simp at this;omega
theorem oK.len{n:Nat}{F:CF}(h:oK n F){x:Nat}(hx:x<n):(F.k x).length+1<=n:=by
 have:=sU n ((x:Int)::F.k x) (List.nodup_cons.2 ⟨h.self hx,h.nd x hx⟩) (fun y hy=>by
  rcases ρ.1 hy with rfl|hy
  ·omega
  ·have:=h.wy x hx y hy;omega)
 simpa using this
theorem oK.link{n:Nat}{F:CF}(h:oK n F){a b:Nat}(ha:a<n)(hb:b<n)(hne:a≠b)(ra:F.u a=-1)(rb:F.u b=-1)(hd:(F.k a).length=(F.k b).length):oK n (iA F a b):=by
 have nb:∀x,x<n->(b:Int)∉F.k x:=fun x hx hm=>by
  have:=(h.wy x hx b hm).2.2;simp at this;omega
 have na:∀x,x<n->(a:Int)∉F.k x:=fun x hx hm=>by
  have:=(h.wy x hx a hm).2.2;simp at this;omega
 refine⟨fun x hx y hy=>?_,fun x hx=>?_,fun y hy=>?_,fun x hx i z hz=>?_⟩
 ·unfold iA at hy⊢;simp only at hy⊢
  split at hy
  ·rename_i e
   subst e;rcases τ.1 hy with hy|hy
   ·obtain⟨h1,h2,h3⟩:=h.wy x hx y hy;refine⟨h1,h2,?_⟩;rw[if_neg (fun e=>by rw[e,rb]at h3;omega)];exact h3
   ·simp at hy;subst hy;exact⟨ω,ω,σ⟩
  ·obtain⟨h1,h2,h3⟩:=h.wy x hx y hy;refine⟨h1,h2,?_⟩;rw[if_neg (fun e=>by rw[e,rb]at h3;omega)];exact h3
 ·unfold iA;simp only
  split
  ·rw[θ];exact⟨h.nd a ha,σ,fun y hy z hz e=>by simp at hz;subst hz;subst e;exact nb a ha hy⟩
  ·exact h.nd x hx
 ·unfold iA;simp only
  by_cases hyb:y=b
  ·subst hyb;exact Or.inr ⟨a,ha,σ,σ⟩
  ·rw[if_neg hyb];rcases h.up y hy with h1|⟨p,hp,h1,h2⟩
   ·exact Or.inl h1
   ·refine Or.inr ⟨p,hp,h1,?_⟩
    split
    ·rename_i e;subst e;exact τ.2 (Or.inl h2)
    ·exact h2
 ·have kz:∀z,z∈F.k x->(iA F a b).k z.toNat=F.k z.toNat:=fun z hz=>by
   unfold iA;simp only
   rw[if_neg (fun e=>by
    have:=h.wy x hx z hz
    exact na x hx (by rw[←e,show((z.toNat:Nat):Int)=z by omega];exact hz))]
  have hz':=hz;unfold iA at hz';simp only at hz'
  split at hz'
  ·rename_i e
   subst e;rcases Nat.lt_or_ge i (F.k x).length with hi|hi
   ·rw[List.getElem?_append_left hi]at hz';rw[kz z (List.mem_of_getElem? hz')];exact h.yu x hx i z hz'
   ·have hil:i=(F.k x).length:=by
     have:=(List.getElem?_eq_some_iff.1 hz').1;simp at this;omega
    subst hil;rw[List.getElem?_append_right (Nat.le_refl _)]at hz';simp at hz';subst hz';unfold iA;simp only[π];rw[if_neg (fun e=>hne ω),hd]
  ·rw[kz z (List.mem_of_getElem? hz')];exact h.yu x hx i z hz'
def CC.L(C:CC):List Int:=C.A++(C.B++(C.N++C.O))
structure G(n ka kb kn ko:Nat)(C:CC):Prop where
 f:oK n C.F
 rt:∀x,x∈C.L->0<=x/\x<n/\C.F.u x.toNat=-1
 nd:C.L.Nodup
 a1:C.A.Pairwise (fun x y=>dE n C.F x<dE n C.F y)
 a2:∀x,x∈C.A->(ka:Int)<=dE n C.F x
 b1:C.B.Pairwise (fun x y=>dE n C.F x<dE n C.F y)
 b2:∀x,x∈C.B->(kb:Int)<=dE n C.F x
 n1:∀x,x∈C.N->dE n C.F x=kn
 o1:C.O.Pairwise (fun x y=>dE n C.F x<dE n C.F y)
 o2:∀x,x∈C.O->dE n C.F x<ko
theorem qG(n k:Nat)(C:CC):(takeA n k C).L.Perm C.L:=by
 obtain⟨F,A,B,N,O,q⟩:=C;unfold takeA
 split
 ·rename_i x t h
  simp only at h;subst h
  split
  ·unfold CC.L;simp only;rw[List.perm_iff_count];intro y;simp[List.count_append,List.count_cons];omega
  ·exact List.Perm.refl _
 ·exact List.Perm.refl _
theorem qJ(n k:Nat)(C:CC):(takeB n k C).L.Perm C.L:=by
 obtain⟨F,A,B,N,O,q⟩:=C;unfold takeB
 split
 ·rename_i x t h
  simp only at h;subst h
  split
  ·unfold CC.L;simp only;rw[List.perm_iff_count];intro y;simp[List.count_append,List.count_cons];omega
  ·exact List.Perm.refl _
 ·exact List.Perm.refl _
theorem qX(C:CC):(fO C).L.Perm C.L:=by
 obtain⟨F,A,B,N,O,q⟩:=C;unfold fO
 split
 ·rename_i x h
  simp only at h;subst h;unfold CC.L;simp only;rw[List.perm_iff_count];intro y;simp[List.count_append,List.count_cons]
  try omega
 ·rename_i x y z h
  simp only at h;subst h;unfold CC.L;simp only;rw[List.perm_iff_count];intro y;simp[List.count_append,List.count_cons]
  try omega
 ·exact List.Perm.refl _
theorem MC(n k:Nat)(C:CC):(takeA n k C).F=C.F:=by unfold takeA;split;(split<;>rfl);rfl
theorem LG(n k:Nat)(C:CC):(takeB n k C).F=C.F:=by unfold takeB;split;(split<;>rfl);rfl
theorem LJ(C:CC):(fO C).F=C.F:=by unfold fO;split<;>rfl
theorem D6{n k:Nat}{C:CC}(h:G n k k k k C):G n (k+1) k k k (takeA n k C):=by
 have hp:=qG n k C;have hF:=MC n k C;have rt:=fun x (hx:x∈(takeA n k C).L)=>h.rt x (hp.mem_iff.1 hx);have nd:=hp.nodup_iff.2 h.nd;have key:((takeA n k C).A.Pairwise (fun x y=>dE n C.F x<dE n C.F y))/\(∀x,x∈(takeA n k C).A->((k+1:Nat):Int)<=dE n C.F x)/\(takeA n k C).B=C.B/\(∀x,x∈(takeA n k C).N->dE n C.F x=k)/\(takeA n k C).O=C.O:=by
  obtain⟨F,A,B,N,O,q⟩:=C;have a1:=h.a1;have a2:=h.a2;have n1:=h.n1;simp only at a1 a2 n1;unfold takeA;rcases A with _|⟨x,t⟩
  ·exact⟨List.Pairwise.nil,fun x hx=>by(cases hx),rfl,n1,rfl⟩
  ·simp only;rw[List.pairwise_cons]at a1;have hx:=a2 x σ
   split
   ·rename_i hd
    refine⟨a1.2,fun y hy=>?_,rfl,fun y hy=>?_,rfl⟩
    ·have:=a1.1 y hy;omega
    ·simp only at hy;rcases τ.1 hy with hy|hy
     ·exact n1 y hy
     ·simp at hy;subst hy;exact hd
   ·rename_i hd
    refine⟨List.pairwise_cons.2 a1,fun y hy=>?_,rfl,n1,rfl⟩;rcases ρ.1 hy with rfl|hy
    ·omega
    ·have:=a1.1 y hy;omega
 obtain⟨k1,k2,k3,k4,k5⟩:=key;rw[←hF]at k1 k2 k4;exact⟨by rw[hF];exact h.f,fun x hx=>by rw[hF];exact rt x hx,nd,k1,k2,by rw[k3,hF];exact h.b1,by rw[k3,hF];exact h.b2,k4,by rw[k5,hF];exact h.o1,by rw[k5,hF];exact h.o2⟩
theorem Ey{n k:Nat}{C:CC}(h:G n (k+1) k k k C):G n (k+1) (k+1) k k (takeB n k C):=by
 have hp:=qJ n k C;have hF:=LG n k C;have rt:=fun x (hx:x∈(takeB n k C).L)=>h.rt x (hp.mem_iff.1 hx);have nd:=hp.nodup_iff.2 h.nd;have key:((takeB n k C).B.Pairwise (fun x y=>dE n C.F x<dE n C.F y))/\(∀x,x∈(takeB n k C).B->((k+1:Nat):Int)<=dE n C.F x)/\(takeB n k C).A=C.A/\(∀x,x∈(takeB n k C).N->dE n C.F x=k)/\(takeB n k C).O=C.O:=by
  obtain⟨F,A,B,N,O,q⟩:=C;have a1:=h.b1;have a2:=h.b2;have n1:=h.n1;simp only at a1 a2 n1;unfold takeB;rcases B with _|⟨x,t⟩
  ·exact⟨List.Pairwise.nil,fun x hx=>by(cases hx),rfl,n1,rfl⟩
  ·simp only;rw[List.pairwise_cons]at a1;have hx:=a2 x σ
   split
   ·rename_i hd
    refine⟨a1.2,fun y hy=>?_,rfl,fun y hy=>?_,rfl⟩
    ·have:=a1.1 y hy;omega
    ·simp only at hy;rcases τ.1 hy with hy|hy
     ·exact n1 y hy
     ·simp at hy;subst hy;exact hd
   ·rename_i hd
    refine⟨List.pairwise_cons.2 a1,fun y hy=>?_,rfl,n1,rfl⟩;rcases ρ.1 hy with rfl|hy
    ·omega
    ·have:=a1.1 y hy;omega
 obtain⟨k1,k2,k3,k4,k5⟩:=key;rw[←hF]at k1 k2 k4;exact⟨by rw[hF];exact h.f,fun x hx=>by rw[hF];exact rt x hx,nd,by rw[k3,hF];exact h.a1,by rw[k3,hF];exact h.a2,k1,k2,k4,by rw[k5,hF];exact h.o1,by rw[k5,hF];exact h.o2⟩
theorem EE{n k:Nat}{C:CC}(h:G n (k+1) (k+1) k k C):G n (k+1) (k+1) k (k+1) (fO C):=by
 have hp:=qX C;have hF:=LJ C;have rt:=fun x (hx:x∈(fO C).L)=>h.rt x (hp.mem_iff.1 hx);have nd:=hp.nodup_iff.2 h.nd;have key:(fO C).A=C.A/\(fO C).B=C.B/\(∀x,x∈(fO C).N->x∈C.N)/\((fO C).O=C.O\/∃x,x∈C.N/\(fO C).O=C.O++[x]):=by
  unfold fO
  split
  ·rename_i x hx
   exact⟨rfl,rfl,fun y hy=>by(cases hy),Or.inr ⟨x,by rw[hx];simp,rfl⟩⟩
  ·rename_i x y z hx
   exact⟨rfl,rfl,fun u hu=>by rw[hx];exact List.mem_cons_of_mem _ hu,Or.inr ⟨x,by rw[hx];simp,rfl⟩⟩
  ·exact⟨rfl,rfl,fun y hy=>hy,Or.inl rfl⟩
 obtain⟨k1,k2,k3,k4⟩:=key;refine⟨by rw[hF];exact h.f,fun x hx=>by rw[hF];exact rt x hx,nd,by rw[k1,hF];exact h.a1,by rw[k1,hF];exact h.a2,by rw[k2,hF];exact h.b1,by rw[k2,hF];exact h.b2,fun x hx=>by rw[hF];exact h.n1 x (k3 x hx),?_,?_⟩
 ·rw[hF];rcases k4 with e|⟨x,hx,e⟩
  ·rw[e];exact h.o1
  ·rw[e,List.pairwise_append];exact⟨h.o1,List.pairwise_singleton _ _,fun y hy z hz=>by simp at hz;subst hz;rw[h.n1 z hx];exact h.o2 y hy⟩
 ·rw[hF];intro y hy;rcases k4 with e|⟨x,hx,e⟩
  ·rw[e]at hy;have:=h.o2 y hy;omega
  ·rw[e]at hy;rcases τ.1 hy with hy|hy
   ·have:=h.o2 y hy;omega
   ·simp at hy;subst hy;rw[h.n1 y hx];omega
theorem Bp{C:CC}(h:C.N.length<=3):(fO C).N=[]\/∃x y,(fO C).N=[x,y]:=by
 obtain⟨F,A,B,N,O,q⟩:=C;simp only at h
 match N,h with
 | [],_=>exact Or.inl rfl
 | [x],_=>exact Or.inl rfl
 | [x,y],_=>exact Or.inr ⟨x,y,rfl⟩
 | [x,y,z],_=>exact Or.inr ⟨y,z,rfl⟩
 | _::_::_::_::_,h=>simp at h;try omega
theorem fK(n:Nat)(F:CF){x:Nat}(hx:x<n):dE n F x=(F.k x).length:=by unfold dE;rw[if_pos ω];simp
theorem xx(n:Nat)(F:CF){a b:Nat}(ha:a<n)(x:Int)(hx:0<=x/\x<n):dE n (iA F a b) x=if x=a then dE n F a+1 else dE n F x:=by
 obtain⟨y,rfl⟩:=Int.eq_ofNat_of_zero_le hx.1;have hy:y<n:=ω;rw[fK _ _ hy,fK _ _ ha,fK _ _ hy];unfold iA;simp only
 by_cases e:y=a
 ·subst e;simp
 ·rw[if_neg e,if_neg ω]
theorem KF{n k:Nat}{C:CC}(h:G n (k+1) (k+1) k (k+1) C){x y:Int}(hN:C.N=[x,y]):∃a b:Nat,x=a/\y=b/\a<n/\b<n/\a≠b/\C.F.u a=-1/\C.F.u b=-1/\(C.F.k a).length=k/\(C.F.k b).length=k:=by
 have hx:=h.rt x (by unfold CC.L;rw[hN];simp);have hy:=h.rt y (by unfold CC.L;rw[hN];simp);have dx:=h.n1 x (by rw[hN];simp);have dy:=h.n1 y (by rw[hN];simp);obtain⟨a,rfl⟩:=Int.eq_ofNat_of_zero_le hx.1;obtain⟨b,rfl⟩:=Int.eq_ofNat_of_zero_le hy.1;have ha:a<n:=ω;have hb:b<n:=ω;rw[fK _ _ ha]at dx;rw[fK _ _ hb]at dy;refine⟨a,b,rfl,rfl,ha,hb,fun e=>?_,by simpa using hx.2.2,by simpa using hy.2.2,ω,ω⟩;subst e;have:=h.nd;unfold CC.L at this;rw[hN]at this;rw[θ]at this;have:=this.2.1;rw[θ]at this;have:=this.2.1;simp at this
theorem OH(lt:Int->Int->Bool)(a b:Nat):(jS lt a b=a/\nu lt a b=b)\/(jS lt a b=b/\nu lt a b=a):=by
 unfold jS nu
 split
 ·exact Or.inr ⟨rfl,rfl⟩
 ·exact Or.inl ⟨rfl,rfl⟩
theorem YB{lt:Int->Int->Bool}{n k:Nat}{C:CC}(h:G n (k+1) (k+1) k (k+1) C)(hN:C.N=[]\/∃x y,C.N=[x,y]):G n (k+1) (k+1) (k+1) (k+1) (nz lt C)/\(nz lt C).N.length<=1/\(nz lt C).q+(nz lt C).L.length=C.q+C.L.length:=by
 rcases hN with hN|⟨x,y,hN⟩
 ·have e:nz lt C=C:=by unfold nz;rw[hN]
  rw[e];exact⟨⟨h.f,h.rt,h.nd,h.a1,h.a2,h.b1,h.b2,fun x hx=>(by rw[hN]at hx;cases hx),h.o1,h.o2⟩,by rw[hN];simp,rfl⟩
 ·obtain⟨a,b,rfl,rfl,ha,hb,hne,ra,rb,da,db⟩:=KF h hN;have e:nz lt C={ C with F:=iA C.F (jS lt a b) (nu lt a b),N:=[(jS lt a b:Int)],q:=C.q+1 }:=by unfold nz;rw[hN];simp
  have hm:∀z,z∈C.A++(C.B++C.O)->z∈C.L/\z≠a/\z≠b:=fun z hz=>by
   have hnd:=h.nd;unfold CC.L at hnd⊢;rw[hN]at hnd⊢;have hp:(C.A++(C.B++([(a:Int),(b:Int)]++C.O))).Perm ((a:Int)::(b:Int)::(C.A++(C.B++C.O))):=by
    rw[List.perm_iff_count];intro y;simp[List.count_append,List.count_cons];omega
   have DL:=hp.nodup_iff.1 hnd;rw[List.nodup_cons,List.nodup_cons]at DL;refine⟨hp.mem_iff.2 (List.mem_cons_of_mem _ (List.mem_cons_of_mem _ hz)),fun e=>?_,fun e=>?_⟩
   ·subst e;exact DL.1 (List.mem_cons_of_mem _ hz)
   ·subst e;exact DL.2.1 hz
  have hmA:∀z,z∈C.A->z∈C.A++(C.B++C.O):=fun z hz=>by simp[hz]
  have hmB:∀z,z∈C.B->z∈C.A++(C.B++C.O):=fun z hz=>by simp[hz]
  have hmO:∀z,z∈C.O->z∈C.A++(C.B++C.O):=fun z hz=>by simp[hz]
  obtain⟨hi,lo,ehi,elo,hhi,hlo,hne2,rhi,rlo,dhi,dlo,Y7⟩:∃hi lo,jS lt a b=hi/\nu lt a b=lo/\hi<n/\lo<n/\hi≠lo/\C.F.u hi=-1/\C.F.u lo=-1/\(C.F.k hi).length=k/\(C.F.k lo).length=k/\((hi=a/\lo=b)\/(hi=b/\lo=a)):=by
   rcases OH lt a b with⟨h1,h2⟩|⟨h1,h2⟩
   ·exact⟨a,b,h1,h2,ha,hb,hne,ra,rb,da,db,Or.inl ⟨rfl,rfl⟩⟩
   ·exact⟨b,a,h1,h2,hb,ha,Ne.symm hne,rb,ra,db,da,Or.inr ⟨rfl,rfl⟩⟩
  have Es:∀z,z∈C.A++(C.B++C.O)->z≠(hi:Int)/\z≠(lo:Int):=fun z hz=>by
   have:=hm z hz;rcases Y7 with⟨rfl,rfl⟩|⟨rfl,rfl⟩
   ·exact this.2
   ·exact⟨this.2.2,this.2.1⟩
  have ET:∀z,z∈C.A++(C.B++C.O)->dE n (iA C.F hi lo) z=dE n C.F z:=fun z hz=>by
   have hr:=h.rt z (hm z hz).1;rw[xx n C.F hhi z ⟨hr.1,hr.2.1⟩,if_neg (Es z hz).1]
  rw[e,ehi,elo];have hL:(CC.L { C with F:=iA C.F hi lo,N:=[(hi:Int)],q:=C.q+1 }).Perm ((hi:Int)::(C.A++(C.B++C.O))):=by
   unfold CC.L;simp only;rw[List.perm_iff_count];intro y;simp[List.count_append,List.count_cons];omega
  refine⟨⟨h.f.link hhi hlo hne2 rhi rlo (by rw[dhi,dlo]),fun z hz=>?_,hL.nodup_iff.2 (List.nodup_cons.2 ⟨fun hm2=>(Es _ hm2).1 rfl,?_⟩),?_,?_,?_,?_,?_,?_,?_⟩,σ,?_⟩
  ·rcases ρ.1 (hL.mem_iff.1 hz)with rfl|hz
   ·refine⟨ω,ω,?_⟩;unfold iA;simp only[π];rw[if_neg hne2];exact rhi
   ·have hr:=h.rt z (hm z hz).1;refine⟨hr.1,hr.2.1,?_⟩;unfold iA;simp only;rw[if_neg (fun e=>by have:=(Es z hz).2;omega)];exact hr.2.2
  ·have hnd:=h.nd;unfold CC.L at hnd;rw[hN]at hnd;have hp:(C.A++(C.B++([(a:Int),(b:Int)]++C.O))).Perm ((a:Int)::(b:Int)::(C.A++(C.B++C.O))):=by
    rw[List.perm_iff_count];intro y;simp[List.count_append,List.count_cons];omega
   have DL:=hp.nodup_iff.1 hnd;rw[List.nodup_cons,List.nodup_cons]at DL;exact DL.2.2
  ·exact h.a1.imp_of_mem (fun {x y} hx hy hxy=>by rw[ET x (hmA x hx),ET y (hmA y hy)];exact hxy)
  ·intro x hx
   show _<=dE n (iA C.F hi lo) x
   rw[ET x (hmA x hx)];exact h.a2 x hx
  ·exact h.b1.imp_of_mem (fun {x y} hx hy hxy=>by rw[ET x (hmB x hx),ET y (hmB y hy)];exact hxy)
  ·intro x hx
   show _<=dE n (iA C.F hi lo) x
   rw[ET x (hmB x hx)];exact h.b2 x hx
  ·intro x hx;simp at hx;subst hx
   show dE n (iA C.F hi lo) (hi:Int)=_
   rw[xx n C.F hhi hi ω,if_pos rfl,fK n C.F hhi,dhi];omega
  ·exact h.o1.imp_of_mem (fun {x y} hx hy hxy=>by rw[ET x (hmO x hx),ET y (hmO y hy)];exact hxy)
  ·intro x hx
   show dE n (iA C.F hi lo) x<_
   rw[ET x (hmO x hx)];exact h.o2 x hx
  ·unfold CC.L;simp only[υ,List.length_cons,List.length_nil,hN];omega
theorem Hq{lt:Int->Int->Bool}{n:Nat}{C0:CC}(h:G n 0 0 0 0 C0)(hN:C0.N=[]):∀k,G n k k k k (gV lt n k C0)/\(gV lt n k C0).N.length<=1/\(gV lt n k C0).q+(gV lt n k C0).L.length=C0.q+C0.L.length
 | 0=>⟨h,by rw[gV,hN];simp,rfl⟩
 | k+1=>by
  obtain⟨g,h1,h2⟩:=Hq (lt:=lt) h hN k;have g1:=D6 g;have g2:=Ey g1;have g3:=EE g2;have t1:=(xW n k (gV lt n k C0)).2;have t2:=(xO n k (takeA n k (gV lt n k C0))).2;have ev:=Bp (C:=takeB n k (takeA n k (gV lt n k C0))) ω;obtain⟨g4,h3,h4⟩:=YB (lt:=lt) g3 ev;refine⟨g4,h3,?_⟩;rw[gV];unfold Gs;rw[h4,SG,(qX _).length_eq,(qJ _ _ _).length_eq,(qG _ _ _).length_eq];exact h2
end Go.Proofs.YtklibcncmbofpaaGreat
