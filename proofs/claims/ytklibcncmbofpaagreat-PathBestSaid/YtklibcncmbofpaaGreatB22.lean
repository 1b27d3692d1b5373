/-
  Lemmas for PathBest: PaR, Pa6, Pa4o, Pa4a, Pa4b, Pa4c, Pa4d, Pa4, Pa9. Conditions: those of each lemma.
-/
import Derived.Test.YtklibcncmbofpaaGreatB21
set_option linter.all false
set_option maxHeartbeats 8000000
set_option maxRecDepth 10000
namespace Go.Proofs.YtklibcncmbofpaaGreat
structure UG (A:NS) (S:TS) (l:List BT):Prop where
 ok:∀t,t∈l->cO S (-1) t.root t/\Lone t
 nd:(gT l).Nodup
 inn:∀z,z∈gT l->bX A (z:Int)=true
theorem UG.link {A:NS} {S S':TS} {D r:List BT} {a b:BT} (h:UG A S (D++a::b::r)) (hT:cO S' (-1) (dJ A a b).root (dJ A a b)) (hs:∀z,z∉a.nodes++b.nodes->S.at S' z):UG A S' (D++dJ A a b::r):=by
 have la:=(h.ok a σ).2;have lb:=(h.ok b σ).2;have hp:(gT (D++dJ A a b::r)).Perm (gT (D++a::b::r)):=by
  rw [gI,gI,bL,bL,bL,←List.append_assoc a.nodes];exact ((mg A la lb).append_right _).append_left _
 have hnd:=h.nd;rw [gI,bL,bL] at hnd;rw [θ] at hnd;obtain ⟨_,n2,n3⟩:=hnd;rw [←List.append_assoc,θ] at n2;obtain ⟨_,_,n4⟩:=n2;refine ⟨fun t ht=>?_,hp.nodup_iff.2 h.nd,fun z hz=>h.inn z (hp.mem_iff.1 hz)⟩;rcases τ.1 ht with e|e
 ·have h1:=h.ok t (by simp [e]);refine ⟨h1.1.frame (fun z hz=>hs z (fun hm=>?_)),h1.2⟩;refine n3 z (List.mem_flatMap.2 ⟨t,e,hz⟩) z ?_ rfl;rcases τ.1 hm with e2|e2
  ·exact τ.2 (Or.inl e2)
  ·exact τ.2 (Or.inr (τ.2 (Or.inl e2)))
 ·rcases ρ.1 e with e|e
  ·rw [e];exact ⟨hT,nG A la lb⟩
  ·have h1:=h.ok t (by simp [e]);exact ⟨h1.1.frame (fun z hz=>hs z (fun hm=>n4 z hm z (List.mem_flatMap.2 ⟨t,e,hz⟩) rfl)),h1.2⟩
theorem UG.two {A:NS} {S:TS} {D r:List BT} {a b:BT} (h:UG A S (D++a::b::r)):cO S (-1) a.root a/\cO S (-1) b.root b/\Lone a/\Lone b/\(a.nodes++b.nodes).Nodup/\∀z,z∈a.nodes++b.nodes->bX A (z:Int)=true:=by
 have hnd:=h.nd;rw [gI,bL,bL,θ] at hnd;have n2:=hnd.2.1;rw [←List.append_assoc,θ] at n2;refine ⟨(h.ok a σ).1,(h.ok b σ).1,(h.ok a σ).2,(h.ok b σ).2,n2.1,fun z hz=>h.inn z ?_⟩;rw [gI,bL,bL,←List.append_assoc];simp only [τ] at hz ⊢;rcases hz with e|e
 ·simp [e]
 ·simp [e]
theorem Nl (S:TS) (x:Nat):∀z,(gP S x []).l z=(S.aJ x false (-1)).l z/\(gP S x []).r z=(S.aJ x false (-1)).r z/\(gP S x []).u z=(S.aJ x false (-1)).u z:=fun z=>by
 unfold gP TS.aJ;simp
theorem Ja (S:TS) (x k j:Nat) (ks:List Int) (h:ks[j]?=some (k:Int)):∀z,(gP S x (ks.take (j+1))).l z=(((gP S x (ks.take j)).aJ k true (-1)).bW k (-1)).l z/\(gP S x (ks.take (j+1))).r z=(((gP S x (ks.take j)).aJ k true (-1)).bW k (-1)).r z/\(gP S x (ks.take (j+1))).u z=(((gP S x (ks.take j)).aJ k true (-1)).bW k (-1)).u z:=fun z=>by
 have e:ks.take (j+1)=ks.take j++[(k:Int)]:=by rw [List.take_add_one,h];rfl
 rw [e];unfold gP TS.aJ TS.bW;have hz:((z:Int)=(k:Int))=(z=k):=propext ⟨fun h=>ω,fun h=>ω⟩;simp only [τ,List.mem_singleton,hz];refine ⟨σ,?_,?_⟩
 ·by_cases h1:z=k
  ·simp [h1]
  ·simp [h1]
 ·by_cases h1:z=k
  ·simp [h1]
  ·simp [h1]
theorem O8 (A:NS) {l:List BT} {j:Nat} (h:2*j+1<l.length):∃a b r,l.drop (2*j)=a::b::r/\l[2*j]?=some a/\l[2*j+1]?=some b/\r=l.drop (2*(j+1))/\(bY A l).take (j+1)=(bY A l).take j++[dJ A a b]:=by
 have h1:l.drop (2*j)=l[2*j]::l[2*j+1]::l.drop (2*j+2):=by
  rw [List.drop_eq_getElem_cons ω,List.drop_eq_getElem_cons ω]
 refine ⟨l[2*j],l[2*j+1],l.drop (2*j+2),h1,ε _,ε _,by rw [show 2*(j+1)=2*j+2 by omega],?_⟩;have h2:=vE A j l ω;rw [h1] at h2;have hl:((bY A l).take j).length=j:=by rw [List.length_take,sJ];omega
 have h3:(bY A l)[j]?=some (dJ A l[2*j] l[2*j+1]):=by
  rw [h2,List.getElem?_append_right ω,hl,Nat.sub_self];rfl
 rw [List.take_add_one,h3];rfl
theorem MU (A:NS) {l:List BT} {j:Nat} (h:2*j+1=l.length):∃a,l.drop (2*j)=[a]/\l[2*j]?=some a/\(bY A l).take (j+1)=(bY A l).take j++[a]/\l.drop (2*(j+1))=[]:=by
 have h1:l.drop (2*j)=[l[2*j]]:=by
  rw [List.drop_eq_getElem_cons ω,List.drop_eq_nil_of_le ω]
 refine ⟨l[2*j],h1,ε _,?_,List.drop_eq_nil_of_le ω⟩;have h2:=vE A j l ω;rw [h1] at h2;have hl:((bY A l).take j).length=j:=by rw [List.length_take,sJ];omega
 have h3:(bY A l)[j]?=some l[2*j]:=by
  rw [h2,List.getElem?_append_right ω,hl,Nat.sub_self];rfl
 rw [List.take_add_one,h3];rfl
theorem Sr (A:NS) {l:List BT} {j:Nat} (h:l.length<=2*j):(bY A l).take j=bY A l:=List.take_of_length_le (by rw [sJ];omega)
theorem rest_step (A:NS) {l:List BT} {j:Nat} (h:j<l.length):gJ A (l.drop j)=dJ A l[j] (gJ A (l.drop (j+1))):=by
 rw [List.drop_eq_getElem_cons h];rfl
theorem UG.start {A:NS} {S:TS} {x:Nat} {l:BT} (hl:cO S (x:Int) (S.l x) l) (hn:(x::l.nodes).Nodup) (hin:∀z,z∈l.nodes->bX A (z:Int)=true):UG A (gP S x (dH (bD l))) (bD l):=by
 obtain ⟨n1,n2⟩:=List.nodup_cons.1 hn;have e:=hl.root;rw [e] at hl;have aar:∀ (t:BT) u,u∈bD t->Lone u:=by
  intro t
  induction t with
  | nil=>intro u hu;cases hu
  | node y a b _ ih=>
   intro u hu;simp only [bD,ρ] at hu;rcases hu with e|e
   ·subst e;rfl
   ·exact ih u e
 exact ⟨fun t ht=>⟨FT hl n2 n1 (fun z hz=>Iff.rfl) t ht,aar l t ht⟩,(jG l).nodup_iff.2 n2,fun z hz=>hin z ((jG l).mem_iff.1 hz)⟩
structure Lr (A:NS) (S0 S:TS) (l:BT) (L:List BT):Prop where
 fo:UG A S L
 sub:∀z,z∈gT L->z∈l.nodes
 fr:∀z,z∉l.nodes->S0.at S z
theorem Lr.link {A:NS} {S0 S S':TS} {l:BT} {D r:List BT} {a b:BT} (h:Lr A S0 S l (D++a::b::r)) (hT:cO S' (-1) (dJ A a b).root (dJ A a b)) (hs:∀z,z∉a.nodes++b.nodes->S.at S' z):Lr A S0 S' l (D++dJ A a b::r):=by
 have la:=(h.fo.ok a σ).2;have lb:=(h.fo.ok b σ).2;have hp:(gT (D++dJ A a b::r)).Perm (gT (D++a::b::r)):=by
  rw [gI,gI,bL,bL,bL,←List.append_assoc a.nodes];exact ((mg A la lb).append_right _).append_left _
 refine ⟨h.fo.link hT hs,fun z hz=>h.sub z (hp.mem_iff.1 hz),fun z hz=>?_⟩;have h1:=h.fr z hz
 have h2:=hs z (fun hm=>hz (h.sub z (by
  rw [gI,bL,bL,←List.append_assoc];simp only [τ] at hm ⊢;rcases hm with e|e
  ·simp [e]
  ·simp [e])))
 exact ⟨h2.1.trans h1.1,h2.2.1.trans h1.2.1,h2.2.2.trans h1.2.2⟩
theorem Lr.start {A:NS} {S:TS} {x:Nat} {l:BT} (hl:cO S (x:Int) (S.l x) l) (hn:(x::l.nodes).Nodup) (hin:∀z,z∈l.nodes->bX A (z:Int)=true):Lr A (gP S x (dH (bD l))) (gP S x (dH (bD l))) l (bD l):=
 ⟨UG.start hl hn hin,fun z hz=>(jG l).mem_iff.1 hz,fun z _=>⟨rfl,rfl,rfl⟩⟩
theorem Lr.nil {A:NS} {S0 S:TS} {l:BT} {L:List BT} (h:Lr A S0 S l L):Lr A S0 S l (L++[BT.nil]):=by
 have e:gT (L++[BT.nil])=gT L:=by rw [gI];simp [gT,BT.nodes]
 refine ⟨⟨fun t ht=>?_,by rw [e];exact h.fo.nd,by rw [e];exact h.fo.inn⟩,by rw [e];exact h.sub,h.fr⟩;rcases τ.1 ht with e|e
 ·exact h.fo.ok t e
 ·have e2:t=.nil:=by simpa using e
  subst e2;exact ⟨rfl,trivial⟩
theorem Lr.done {A:NS} {S S':TS} {x:Nat} {l t:BT} (h:Lr A (gP S x (dH (bD l))) S' l [t]) (hx:x∉l.nodes):cO S' (-1) t.root t/\S'.l x=-1/\S'.r x=S.r x/\S'.u x=S.u x/\∀z,z∉x::l.nodes->S.at S' z:=by
 have h1:=h.fr x hx;have hk:∀z:Nat,z∉l.nodes->(z:Int)∉dH (bD l):=fun z hz hm=>hz (Lt hm);have hs:∀z:Nat,z∉l.nodes->z≠x->S.at (gP S x (dH (bD l))) z:=fun z hz hzx=>Rn hzx (hk z hz);refine ⟨(h.fo.ok t σ).1,?_,?_,?_,fun z hz=>?_⟩
 ·rw [h1.1];simp [gP]
 ·rw [h1.2.1];simp [gP,hk x hx]
 ·rw [h1.2.2];simp [gP,hk x hx]
 ·simp only [ρ,not_or] at hz;have h2:=h.fr z hz.2;have h3:=hs z hz.2 hz.1;exact ⟨h2.1.trans h3.1,h2.2.1.trans h3.2.1,h2.2.2.trans h3.2.2⟩
theorem ou {l:List BT} {j:Nat} {t:BT} (h:l[j]?=some t):(dH l).getD j 0=t.root/\(dH l)[j]?=some t.root:=by
 unfold dH;simp [φ,h]
theorem Ky (l:List BT):(dH l).length=l.length:=by unfold dH;simp
theorem uP (a b:List BT):dH (a++b)=dH a++dH b:=by unfold dH;rw [List.map_append]
theorem Fg:∀ (t:BT),(bD t).length<=t.nodes.length
 | .nil=>Nat.le_refl _
 | .node x l r=>by
  have:=Fg r;simp only [bD,List.length_cons,BT.nodes,υ];omega
theorem N9 (A:NS) {tw:List BT} {i:Nat} (h:i<tw.length):tw.take (i+1)=tw.take i++[tw[i]]/\gJ A (tw.drop i)=dJ A tw[i] (gJ A (tw.drop (i+1))):=by
 refine ⟨?_,rest_step A h⟩;rw [List.take_add_one,ε h];rfl
end Go.Proofs.YtklibcncmbofpaaGreat
namespace Go.Proofs.YtklibcncmbofpaaGreat
open Go Go.RowKit
section
variable {w:World} {B:PB} {F:List Nat} {gt ct:Nat} {A:NS} {st:Nat} {S:TS} {ak:List Int}
def OO (w:World) (base:Nat) (v:Value) (xs:List Int):Prop:=w.ownsRow base 3 1 v xs.length (aU xs)
theorem OO.cell {W:World} {base:Nat} {a:Option Addr} {n c:Nat} {xs:List Int} (h:W.ownsRow base 3 1 (.slice a n c) n (aU xs)) {j:Nat} {y:Int} (hj:xs[j]?=some y):∃g,a=some ⟨g,0,none⟩/\base<=g/\g<W.heap.size/\∀W',aa [] W W'->W'.cell? ⟨g,j,none⟩=some (.int .i64 y):=by
 have hl:=h.1;rw [fG] at hl;have hjl:j<xs.length:=(List.getElem?_eq_some_iff.1 hj).1;obtain ⟨g,cap,e,hb,_⟩:=gM h ω
 injection e with e1 e2 e3
 subst e1;have hlt:=h.lt g rfl;refine ⟨g,rfl,hb,hlt.2,fun W' hW=>hW.was ?_⟩;rw [h.cellAt j ω,nO hjl,φ,hj];rfl
theorem AB (h:iq w B F gt ct A st S ak) (x:Nat) (hin:bX A (x:Int)=true) (l:BT) (hl:cO S (x:Int) (S.l x) l) (hnd:(x::l.nodes).Nodup) (hinl:∀z,z∈l.nodes->bX A (z:Int)=true) (hsz:l.size<=65536) :
    Calls Tryz.prog 216 #[.pointer (some ⟨B.n0,0,none⟩),.int .i64 (x:Int)] w fun e w'=>e=.returned (.int .i64 (gJ A (bY A (bD l))).root)/\aa (B.ba::F) w w'/\∃st' S',iq w' B F gt ct A st' S' ak/\cO S' (-1) (gJ A (bY A (bD l))).root (gJ A (bY A (bD l)))/\S'.l x=-1/\S'.r x=S.r x/\S'.u x=S.u x/\∀z,z∉x::l.nodes->S.at S' z:=by
  have hx:=(ai _ _).1 hin;have hA:=h.cells.ok.c1;have hlt:∀z,z∈l.nodes->z<A.cs.length:=fun z hz=>((ai _ _).1 (hinl z hz)).1;have kk:=O4 h x hin l hl hlt hsz;have hlen:(bD l).length<=65536:=by have:=Fg l;rw [BT.mf] at this;omega
  have HS:=χ (Lr.start hl hnd hinl);have hxl:x∉l.nodes:=(List.nodup_cons.1 hnd).1;have hkr:∀ (j:Nat) (k:BT),(bD l)[j]?=some k->∃y:Nat,k.root=(y:Int)/\y<A.cs.length:=fun j k hk=>by
    have h1:=Ir (List.mem_of_getElem? hk);exact ⟨_,h1.2.1,hlt _ ((jG l).mem_iff.1 (List.mem_flatMap.2 ⟨k,List.mem_of_getElem? hk,h1.1⟩))⟩
  have HK:=χ (ψ hkr (ψ hxl hlen));have hbl:=h.lt;have hn0:B.n0<w.heap.size/\B.ba<w.heap.size/\∀z,z∈F->z<w.heap.size:=⟨hbl _ (by simp [PB.blk]),hbl _ (by simp [PB.blk]),fun z hz=>hbl z (by simp [PB.blk,hz])⟩;clear hlt hl hnd hinl hkr hxl hbl;generalize hks:bD l=ks at *
  go_enter Tryz.func216,Tryz.ntmps216
  go_upto_region 2 with (first
    | ((go_at_call 217;(with_reducible refine (kk).mono ?_));rintro e w1 ⟨ao,co,rfl,ho,hM1,hu1⟩)
    | fail)
  clear h kk;have hs1:=hu1.size;have c1:=hM1.h1;have dl:=hM1.l x hx.1;have ff:=hM1.f (x*3);have CR:(x:Int)<(A.cs.length:Int):=ω;have HO:=χ (ψ ho (ψ hM1 hu1));clear ho hM1 hu1;obtain ⟨hkr,hxl,hlen⟩:=HK.out;clear hkr hxl
  go_upto_region 3 with (fail)
  refine jA (fun W=>iq W B F gt ct A st (S.aJ x false (-1)) ak/\aa [B.ba] w1 W) ⟨(HO.out.2.1.KI x (-1)).aA (by first|exact ⟨rfl,rfl,rfl,Nat.le_refl _,fun _ _ _=>rfl⟩|exact ν),β⟩ ?_;rintro W ⟨mE,hu2⟩;have HW:=χ (ψ mE hu2);clear mE hu2 c1 dl ff;go_wp2
  go_loopw [7,24] (fun v7 v24 wr=>∃ (j:Nat),j<=ks.length/\v24=.int .i64 (j:Int)/\iq wr B F gt ct A st (gP S x ((dH ks).take j)) ak/\aa [B.ba] w1 wr) (fun _ v24 _=>ks.length-(intOf v24).toNat)
  case atStart=>exact ⟨0,Nat.zero_le _,rfl,by rw [List.take_zero];exact HW.out.1.ext (Nl S x),HW.out.2⟩
  case round=>
    obtain ⟨j,hj,rfl,hM,hu⟩:=hrel;rename World=>wr
    by_cases hjn:j<ks.length
    · obtain ⟨t,ht⟩:∃t,ks[j]?=some t:=⟨ks[j],ε hjn⟩
      obtain ⟨y,hy,hyl⟩:=HK.out.1 j t ht;have hro:=(ou ht).2;rw [hy] at hro;obtain ⟨g,rfl,hg1,hg2,hgc⟩:=OO.cell HO.out.1 hro;have hgr:wr.cell? ⟨g,j,none⟩=some (.int .i64 (y:Int)):=hu.kept (hgc w1 (aa.refl _ _)) ζ;have c1:=hM.h1;have dr:=hM.r y hyl;have du:=hM.u y hyl;have Un:=hM.f (y*3+1);have Um:=hM.f (y*3+2);have Xi:decide ((j:Int)<(ks.length:Int))=true:=ζ;have ZM:(y:Int)<(A.cs.length:Int):=ω;have hn1:¬B.n0=B.ba:=hM.sep.1;have hn2:¬B.ba=B.n0:=fun e=>hM.sep.1 e.symm;have HM:=χ (ψ hM (ψ hu hro));clear hM hu hro hy ht hgc;go_wp2
      go_region_law (fail)
      all_goals
        go_wp2
        go_roundw
        case rel=>
          refine ⟨j+1,ω,by go_num,?_,HM.out.2.1.trans β⟩;exact (((HM.out.1.dG y (-1)).sU y (-1)).aA (by first|exact ⟨rfl,rfl,rfl,Nat.le_refl _,fun _ _ _=>rfl⟩|exact ν)).ext (Ja S x y j (dH ks) HM.out.2.2)
        case measure=>simp [intOf];omega
    · obtain rfl:j=ks.length:=ω
      have Xi:decide ((ks.length:Int)<(ks.length:Int))=false:=σ;have e:(dH ks).take ks.length=dH ks:=List.take_of_length_le (by rw [Ky];exact Nat.le_refl _);rw [e] at hM;have HM:=χ (ψ hM hu);clear hM hu e;go_wp2;refine jA (fun W=>aa [] wr W) (by first|exact ⟨rfl,rfl,rfl,Nat.le_refl _,fun _ _ _=>rfl⟩|exact ν) ?_;intro W2 hW2;have nI:=χ (ψ (HM.out.1.aA hW2) (HM.out.2.trans (hW2.mono σ)));have hs2:=nI.out.2.size;clear HM hW2
      go_loopw [8,9] (fun v8 v9 wr=>∃ (j m:Nat) (a2:Option Addr) (c2:Nat) (st':Nat) (S':TS),m=2*j/\j<=(bY A ks).length/\v9=.int .i64 (m:Int)/\v8=.slice a2 j c2/\wr.ownsRow W2.heap.size 3 1 (.slice a2 j c2) j (aU (dH ((bY A ks).take j)))/\iq wr B F gt ct A st' S' ak/\Lr A (gP S x (dH ks)) S' l ((bY A ks).take j++ks.drop m)/\aa [B.ba,B.c] W2 wr) (fun _ v9 _=>ks.length+2-(intOf v9).toNat)
      case atStart=>exact ⟨0,0,none,0,st,_,rfl,Nat.zero_le _,rfl,rfl,⟨rfl,Or.inl ⟨rfl,rfl⟩⟩,nI.out.1,by simpa using HS.out,aa.refl _ _⟩
      case round=>
        obtain ⟨j,m,a2,c2,st',S',hm,hj,rfl,rfl,ho2,hM,hF,hu⟩:=hrel;rename World=>wr;have htl:=sJ A ks;have hos:=hu.size;have hbl:∀z,z∈B.blk F gt->z<W2.heap.size:=nI.out.1.lt;have hgb:∀g,g∈(Value.slice a2 j c2).ownBlock.toList->W2.heap.size<=g:=fun g hg=>(ho2.lt g (Option.mem_toList.1 hg)).1;have Pg:B.ba<W2.heap.size/\B.c<W2.heap.size:=⟨hbl _ (by simp [PB.blk]),hbl _ (by simp [PB.blk,hM.cF])⟩;have HG:=χ (ψ hbl hgb);have hw1:aa [B.ba,B.c] w1 wr:=(nI.out.2.mono σ).trans hu
        by_cases OG:m<ks.length
        · have hmI:decide ((m:Int)<(ks.length:Int))=true:=ζ
          have hjb:j<=65536:=ω;have hwr:IntKind.i64.wrap ((m:Int)+1)=(m:Int)+1:=IntWalk.i64_in _ ω
          by_cases hlast:m+1=ks.length
          · obtain ⟨t,l1,l2,l3,l4⟩:=MU A (l:=ks) (j:=j) ω
            rw [←hm] at l1 l2;have hro:=(ou l2).2;obtain ⟨g,rfl,hg1,hg2,hgc⟩:=OO.cell HO.out.1 hro;have hgr:wr.cell? ⟨g,m,none⟩=some (.int .i64 t.root):=hw1.kept (hgc w1 (aa.refl _ _)) (by simp;have:=hn0.2.2 _ hM.cF;omega);have hqI:((m:Int)+1 == (ks.length:Int))=true:=ζ;have HL:=χ (ψ hM (ψ hF (ψ hu (ψ l1 (ψ l3 (ψ l4 (ψ hm htl)))))));clear hM hF hu hw1 l1 l2 l3 l4 hro hgc hm htl hlast hbl hgb Pg
            go_wp2_with (first
              | ((at_builtin;refine aW rfl _ _ 26 rfl W2.heap.size 3 (.int .i64 0) 1 8 Tryz.underlying26 fK rfl δ _ _ _ rfl (ho2) [.int .i64 t.root] rfl (by simp [Value.oneCell']) (by first|rfl|(rw [World.size_alloc];rfl)) μ ω (ω) ?_;intro v2 w2 ho3 hu3 mW);obtain ⟨a3,c3,rfl,hc3⟩:=bu ho3)
              | fail)
            go_roundw
            case rel=>
              obtain ⟨hM,hF,hu,l1,l3,l4,hm,htl⟩:=HL.out;refine ⟨j+1,m+2,a3,c3,st',S',ω,ω,by go_num,rfl,?_,hM.upd hu3 (fun g hg hb=>by have:=HG.out.1 g hb;have:=HG.out.2 g hg;omega),?_,hu.joined hu3 (fun g hg=>Or.inr (HG.out.2 g hg))⟩
              · rw [l3,uP,bN];exact ho3
              · rw [show m+2=2*(j+1) by omega,l4,l3,List.append_nil,←l1];exact hF
            case measure=>simp [intOf];omega
          · obtain ⟨ta,tb,r,l1,l2,l2b,l3,l4⟩:=O8 A (l:=ks) (j:=j) ω
            rw [←hm] at l1 l2 l2b;have hroa:=(ou l2).2;have hrob:=(ou l2b).2;obtain ⟨g,rfl,hg1,hg2,hgc⟩:=OO.cell HO.out.1 hroa;obtain ⟨g',e', -, -,hgc'⟩:=OO.cell HO.out.1 hrob;cases e';have YQ:g∉[B.ba,B.c]:=by simp;have:=hn0.2.2 _ hM.cF;omega
            have hgr:wr.cell? ⟨g,m,none⟩=some (.int .i64 ta.root):=hw1.kept (hgc w1 (aa.refl _ _)) YQ;have hgr':wr.cell? ⟨g,m+1,none⟩=some (.int .i64 tb.root):=hw1.kept (hgc' w1 (aa.refl _ _)) YQ;have hqI:((m:Int)+1 == (ks.length:Int))=false:=ζ;have hm1:m+1<ks.length:=ω;have hm1I:(m:Int)+1<(ks.length:Int):=ω;have hm0I:(0:Int)<=(m:Int)+1:=ω;rw [l1] at hF;obtain ⟨t1,t2,t3,t4,t5,t6⟩:=hF.fo.two;have kl:=fun W (hW:aa [] wr W)=>wK (hM.aA hW) ta tb t1 t2 t3 t4 t5 t6;have HL:=χ (ψ hF (ψ hu (ψ l3 (ψ l4 (ψ hm htl)))))
            clear hM hF hu hw1 l1 l2 l2b l3 l4 hroa hrob hgc hgc' hm htl hlast hbl hgb t1 t2 t3 t4 t5 t6 YQ;have hcb:∀k,(Value.slice a2 j c2).ownBlock=some k->k∉[B.ba,B.c]:=fun k hk=>by have:=HG.out.2 k (Option.mem_toList.2 hk);simp;omega
            have HC:=χ hcb;clear hcb
            go_upto_region 14 with (fail)
            go_region_law (first
              | (go_simp;go_at_call 215;(with_reducible refine (kl _ β).mono ?_);rintro e w3 ⟨rfl,Wj,st3,S3,jV,Bg,hf3⟩;(have hu3:aa [B.ba,B.c] wr w3:=aa.trans β Wj);(have ho3:=aF ho2 hu3 HC.out);(have hos3:=hu3.size))
              | (refine kE rfl _ _ 26 rfl W2.heap.size 3 (.int .i64 0) 1 8 Tryz.underlying26 fK rfl δ (.slice a2 j c2) j (aU (dH ((bY A ks).take j))) rfl (ho3.alloc _) w3.heap.size [.int .i64 (dJ A ta tb).root] rfl rfl (fun i u hi=>mJ w3 [.int .i64 (dJ A ta tb).root] 3 i u hi) (by simp [Value.oneCell']) μ ω ζ ?_
                 intro v2 w2 Z8 hu4a hv2;have iC:aa (Value.slice a2 j c2).ownBlock.toList w3 w2:=aa.trans ((aa.refl _ _).alloc _) hu4a
                 obtain ⟨a3,c3,rfl,hc3⟩:=bu Z8)
              | fail)
            all_goals
              go_wp2
              go_roundw
              case rel=>
                obtain ⟨hF,hu,l3,l4,hm,htl⟩:=HL.out;refine ⟨j+1,m+2,a3,c3,st3,S3,ω,ω,by go_num,rfl,?_,jV.upd iC (fun g hg hb=>by have:=HG.out.1 g hb;have:=HG.out.2 g hg;omega),?_,(hu.trans hu3).joined iC (fun g hg=>Or.inr (HG.out.2 g hg))⟩
                · rw [l4,uP,bN];exact Z8
                · rw [show m+2=2*(j+1) by omega,←l3,l4,List.append_assoc];exact hF.link Bg hf3
              case measure=>simp [intOf];omega
        · have hmI:decide ((m:Int)<(ks.length:Int))=false:=ζ
          have hjl:j=(bY A ks).length:=ω;have hdr:ks.drop m=[]:=List.drop_eq_nil_of_le ω;rw [Sr A ω] at ho2 hF;rw [hdr,List.append_nil] at hF;have htn:(bY A ks).length<=65536:=ω;generalize htw:bY A ks=tw at *;subst hjl;have hF2:=hF.nil;have HL:=χ (ψ hM (ψ hF2 (ψ hw1 htw)));have HO2:=χ ho2;clear hM hF hu hw1 hF2 ho2 hdr hm hj htl hbl hgb htw;go_wp2;refine jA (fun W=>aa [] wr W) (by first|exact ⟨rfl,rfl,rfl,Nat.le_refl _,fun _ _ _=>rfl⟩|exact ν) ?_;intro W3 hW3;have HW3:=χ hW3;clear hW3
          go_loopw [10,11] (fun v10 v11 wr3=>∃ (i st3:Nat) (S3:TS),i<=tw.length/\v11=.int .i64 ((i:Int)-1)/\v10=.int .i64 (gJ A (tw.drop i)).root/\iq wr3 B F gt ct A st3 S3 ak/\Lr A (gP S x (dH ks)) S3 l (tw.take i++[gJ A (tw.drop i)])/\aa [B.ba,B.c] W3 wr3) (fun _ v11 _=>((intOf v11)+1).toNat)
          case atStart=>
            have e1:tw.drop tw.length=[]:=List.drop_length;have e2:tw.take tw.length=tw:=List.take_length;refine ⟨tw.length,st',S',Nat.le_refl _,by go_num,by rw [e1];rfl,HL.out.1.aA HW3.out,?_,aa.refl _ _⟩;rw [e1,e2];exact HL.out.2.1
          case round=>
            obtain ⟨i,st3,S3,hi,hz,rfl,hM,hF,hu⟩:=hrel;rename World=>wr3;cases i with
            | zero=>
              have hz2:((0:Nat):Int)-1=-1:=rfl;rw [hz2] at hz;subst hz;rw [List.drop_zero,List.take_zero,List.nil_append] at hF;simp only [List.drop_zero];have HR:=χ (ψ hM (ψ hF hu));clear hM hF hu;go_wp2;go_ret;obtain ⟨hM,hF,hu⟩:=HR.out;have htw:=HL.out.2.2.2;subst htw;have hc:=hM.cF;have v1:aa [B.ba,B.c] w1 wr3:=(HL.out.2.2.1.trans (HW3.out.mono σ)).trans hu;exact ⟨rfl,(HO.out.2.2.mono (by simp +contextual)).trans (v1.mono (by simp [hc])),st3,S3,hM,(show Lr A (gP S x (dH (bD l))) _ l [gJ A (bY A ks)] by rw [hks];exact hF).done HK.out.2.1⟩
            | succ i0=>
              have hz2:((i0+1:Nat):Int)-1=(i0:Int):=ω;rw [hz2] at hz;subst hz;have hil:i0<tw.length:=ω;obtain ⟨q1,q2⟩:=N9 A hil;have hro:=(ou (ε hil)).2;obtain ⟨g,rfl,hg1,hg2,hgc⟩:=OO.cell HO2.out hro;have hgr:wr3.cell? ⟨g,i0,none⟩=some (.int .i64 (tw[i0]).root):=hu.kept (hgc W3 HW3.out) ζ;rw [q1,List.append_assoc] at hF;obtain ⟨t1,t2,t3,t4,t5,t6⟩:=hF.fo.two;have kl:=wK hM tw[i0] (gJ A (tw.drop (i0+1))) t1 t2 t3 t4 t5 t6;rw [←q2] at kl;have HR:=χ (ψ hF (ψ hu q2));have hiI:decide ((i0:Int)≥0)=true:=σ;clear hM hF hu hgc hro q1 q2 t1 t2 t3 t4 t5 t6;generalize ET:tw[i0]=ta at *
              generalize htb:gJ A (tw.drop (i0+1))=tb at *
              go_wp2_with (first
                | (go_at_call 215;(with_reducible refine (kl).mono ?_);rintro e w3 ⟨rfl,hu3,Xu,S4,sG,Pm,hf4⟩)
                | fail)
              go_roundw
              case rel=>
                obtain ⟨hF,hu,q2⟩:=HR.out;refine ⟨i0,Xu,S4,ω,by go_num,rfl,sG,?_,hu.trans hu3⟩;rw [q2] at Pm ⊢;exact hF.link Pm hf4
              case measure=>first|(simp [intOf];done)|(simp [intOf];omega)
end
theorem Fz (S:TS) (p x:Nat) (s:Bool) (hpx:p≠x) (h:S.r x=-1):∀z,(kK S p s x).l z=(((S.aJ p s (-1)).aJ x true (-1)).bW x (-1)).l z/\(kK S p s x).r z=(((S.aJ p s (-1)).aJ x true (-1)).bW x (-1)).r z/\(kK S p s x).u z=(((S.aJ p s (-1)).aJ x true (-1)).bW x (-1)).u z:=fun z=>by
 unfold kK TS.aJ TS.bW;rw [h];have:¬ (z:Int)=-1:=ω;cases s<;>simp [this]
theorem E9 (S:TS) (p x o:Nat) (s:Bool) (hpx:p≠x) (h:S.r x=o):∀z,(kK S p s x).l z=((((S.aJ p s o).bW o p).aJ x true (-1)).bW x (-1)).l z/\(kK S p s x).r z=((((S.aJ p s o).bW o p).aJ x true (-1)).bW x (-1)).r z/\(kK S p s x).u z=((((S.aJ p s o).bW o p).aJ x true (-1)).bW x (-1)).u z:=fun z=>by
 unfold kK TS.aJ TS.bW;rw [h];have:((z:Int)=(o:Int))=(z=o):=propext ⟨fun h=>ω,fun h=>ω⟩;simp only [this];cases s<;>simp
section
variable {w:World} {B:PB} {F:List Nat} {gt ct:Nat} {A:NS} {st:Nat} {S:TS} {ak:List Int}
theorem UY (h:iq w B F gt ct A st S ak) (p x:Nat) (hp:p<A.cs.length) (hx:x<A.cs.length) (hpx:p≠x) (hkl:S.l p=x) (hu:S.u x=p) (ho:S.r x=-1) :
  Calls Tryz.prog 214 #[.pointer (some ⟨B.n0,0,none⟩),.int .i64 (x:Int)] w fun e w'=>e=.returned (.tuple #[])/\iq w' B F gt ct A st (kK S p false x) ak/\aa [B.ba] w w':=by
 have hA:=h.cells.ok.c1;have c1:=h.h1;have dl:=h.l p hp;have dr:=h.r x hx;have du:=h.u x hx;rw [hu] at du;have ff:=h.f;have Un:=ff (p*3);have Um:=ff (p*3+1);have Vj:=ff (x*3+1);have VV:=ff (x*3+2);have Y9:=h.r p hp;have hsep:=h.sep;have hn1:¬B.n0=B.ba:=hsep.1;have hn2:¬B.ba=B.n0:=fun e=>hsep.1 e.symm;have CR:(x:Int)<(A.cs.length:Int):=ω;have Ye:(p:Int)<(A.cs.length:Int):=ω;have m1:¬x*3+1=p*3:=ω;have m2:¬x*3+1=p*3+1:=ω;have m3:¬x*3+2=p*3:=ω;have m4:¬x*3+2=p*3+1:=ω;have m5:¬p*3=x*3+1:=ω;have m6:¬p*3=x*3+2:=ω;have m7:¬p*3+1=x*3+1:=ω;have m8:¬p*3+1=x*3+2:=ω;have HM:=χ h;clear h ff hsep
 rw [hkl] at dl;have hq:((x:Int) == (x:Int))=true:=σ;have HE:=χ (Fz S p x false hpx ho);rw [ho] at dr;have hlr:((-1:Int) != -1)=false:=σ;have HQ:=χ (show (S.aJ p false (-1)).r x=-1/\S.u x=p from ⟨by unfold TS.aJ;(have hxp:¬x=p:=fun e=>hpx e.symm);simpa [hxp] using ho,hu⟩);clear ho hu hkl;generalize S.l p=slp at *
 go_enter Tryz.func214,Tryz.ntmps214
 go_upto_region 1 with (fail)
 go_quiet (fail)
 go_upto_region 2 with (fail)
 go_cut [] (fun W=>aa [] (w.setCell ⟨B.ba,p*3,none⟩ (.int .i64 (-1))) W)
 case first=>
  go_region_law (fail)
  all_goals
   go_wp2
   go_meet
   first|exact ⟨rfl,rfl,rfl,Nat.le_refl _,fun _ _ _=>rfl⟩|exact ν
 case rest=>
  have hW:=hcut;clear hcut;rename World=>W;have mE:=(HM.out.KI p (-1)).aA hW;have e1:=mE.h1;have e2:=mE.r x hx;rw [HQ.out.1] at e2;have e3:=mE.u x hx;rw [Cm,HQ.out.2] at e3;have e6:=mE.f (x*3+1);have e7:=mE.f (x*3+2);have eu:aa [B.ba] w W:=aa.trans β (hW.mono σ);have HW:=χ (ψ mE eu);clear mE hW eu c1 dl dr du Un Um Vj VV Y9;go_wp2;go_end0;refine ⟨rfl,iq.ext (((HW.out.1.dG x (-1)).sU x (-1)).aA ?_) HE.out,HW.out.2.trans ?_⟩
  ·first|exact ⟨rfl,rfl,rfl,Nat.le_refl _,fun _ _ _=>rfl⟩|exact ν
  ·exact β
end
section
variable {w:World} {B:PB} {F:List Nat} {gt ct:Nat} {A:NS} {st:Nat} {S:TS} {ak:List Int}
theorem UO (h:iq w B F gt ct A st S ak) (p x:Nat) (hp:p<A.cs.length) (hx:x<A.cs.length) (hpx:p≠x) (hkl:S.l p=x) (hu:S.u x=p) (o:Nat) (wu:S.r x=o) (hol:o<A.cs.length) (hop:o≠p) (hox:o≠x) :
  Calls Tryz.prog 214 #[.pointer (some ⟨B.n0,0,none⟩),.int .i64 (x:Int)] w fun e w'=>e=.returned (.tuple #[])/\iq w' B F gt ct A st (kK S p false x) ak/\aa [B.ba] w w':=by
 have hA:=h.cells.ok.c1;have c1:=h.h1;have dl:=h.l p hp;have dr:=h.r x hx;have du:=h.u x hx;rw [hu] at du;have ff:=h.f;have Un:=ff (p*3);have Um:=ff (p*3+1);have Vj:=ff (x*3+1);have VV:=ff (x*3+2);have Y9:=h.r p hp;have hsep:=h.sep;have hn1:¬B.n0=B.ba:=hsep.1;have hn2:¬B.ba=B.n0:=fun e=>hsep.1 e.symm;have CR:(x:Int)<(A.cs.length:Int):=ω;have Ye:(p:Int)<(A.cs.length:Int):=ω;have m1:¬x*3+1=p*3:=ω;have m2:¬x*3+1=p*3+1:=ω;have m3:¬x*3+2=p*3:=ω;have m4:¬x*3+2=p*3+1:=ω;have m5:¬p*3=x*3+1:=ω;have m6:¬p*3=x*3+2:=ω;have m7:¬p*3+1=x*3+1:=ω;have m8:¬p*3+1=x*3+2:=ω;have HM:=χ h;clear h ff hsep
 rw [hkl] at dl;have hq:((x:Int) == (x:Int))=true:=σ;have HE:=χ (E9 S p x o false hpx wu);rw [wu] at dr;have zo:((o:Int) != -1)=true:=σ;have hoI:(o:Int)<(A.cs.length:Int):=ω;have do_:=HM.out.u o hol;have ff5:=HM.out.f (o*3+2);have k1:¬o*3+2=p*3:=ω;have k2:¬o*3+2=p*3+1:=ω;have k3:¬x*3+1=o*3+2:=ω;have k4:¬x*3+2=o*3+2:=ω;have k5:¬o*3+2=x*3+1:=ω;have k6:¬o*3+2=x*3+2:=ω;have HQ:=χ (show (S.aJ p false (o:Int)).r x=o/\S.u x=p from ⟨by unfold TS.aJ;(have hxp:¬x=p:=fun e=>hpx e.symm);simpa [hxp] using wu,hu⟩);clear wu hu hkl;generalize S.l p=slp at *
 go_enter Tryz.func214,Tryz.ntmps214
 go_upto_region 1 with (fail)
 go_quiet (fail)
 go_upto_region 2 with (fail)
 go_cut [] (fun W=>aa [] (w.setCell ⟨B.ba,p*3,none⟩ (.int .i64 (o:Int))) W)
 case first=>
  go_region_law (fail)
  all_goals
   go_wp2
   go_meet
   first|exact ⟨rfl,rfl,rfl,Nat.le_refl _,fun _ _ _=>rfl⟩|exact ν
 case rest=>
  have hW:=hcut;clear hcut;rename World=>W;have mE:=(HM.out.KI p (o:Int)).aA hW;have e1:=mE.h1;have e2:=mE.r x hx;rw [HQ.out.1] at e2;have e3:=mE.u x hx;rw [Cm,HQ.out.2] at e3;have e4:=mE.u o hol;have e5:=mE.f (o*3+2);have e6:=mE.f (x*3+1);have e7:=mE.f (x*3+2);have eu:aa [B.ba] w W:=aa.trans β (hW.mono σ);have HW:=χ (ψ mE eu);clear mE hW eu c1 dl dr du Un Um Vj VV ff5 Y9 do_
  go_upto_region 5 with (fail)
  go_region_law (fail)
  all_goals
   go_wp2;go_end0;refine ⟨rfl,iq.ext ((((HW.out.1.sU o p).dG x (-1)).sU x (-1)).aA ?_) HE.out,HW.out.2.trans ?_⟩
   ·first|exact ⟨rfl,rfl,rfl,Nat.le_refl _,fun _ _ _=>rfl⟩|exact ν
   ·exact β
end
section
variable {w:World} {B:PB} {F:List Nat} {gt ct:Nat} {A:NS} {st:Nat} {S:TS} {ak:List Int}
theorem VR (h:iq w B F gt ct A st S ak) (p x:Nat) (hp:p<A.cs.length) (hx:x<A.cs.length) (hpx:p≠x) (hkr:S.r p=x) (hkl:S.l p≠x) (hu:S.u x=p) (ho:S.r x=-1) :
  Calls Tryz.prog 214 #[.pointer (some ⟨B.n0,0,none⟩),.int .i64 (x:Int)] w fun e w'=>e=.returned (.tuple #[])/\iq w' B F gt ct A st (kK S p true x) ak/\aa [B.ba] w w':=by
 have hA:=h.cells.ok.c1;have c1:=h.h1;have dl:=h.l p hp;have dr:=h.r x hx;have du:=h.u x hx;rw [hu] at du;have ff:=h.f;have Un:=ff (p*3);have Um:=ff (p*3+1);have Vj:=ff (x*3+1);have VV:=ff (x*3+2);have Y9:=h.r p hp;have hsep:=h.sep;have hn1:¬B.n0=B.ba:=hsep.1;have hn2:¬B.ba=B.n0:=fun e=>hsep.1 e.symm;have CR:(x:Int)<(A.cs.length:Int):=ω;have Ye:(p:Int)<(A.cs.length:Int):=ω;have m1:¬x*3+1=p*3:=ω;have m2:¬x*3+1=p*3+1:=ω;have m3:¬x*3+2=p*3:=ω;have m4:¬x*3+2=p*3+1:=ω;have m5:¬p*3=x*3+1:=ω;have m6:¬p*3=x*3+2:=ω;have m7:¬p*3+1=x*3+1:=ω;have m8:¬p*3+1=x*3+2:=ω;have HM:=χ h;clear h ff hsep
 have hq:(S.l p == (x:Int))=false:=by simpa using hkl
 have HE:=χ (Fz S p x true hpx ho);rw [ho] at dr;have hlr:((-1:Int) != -1)=false:=σ;have HQ:=χ (show (S.aJ p true (-1)).r x=-1/\S.u x=p from ⟨by unfold TS.aJ;(have hxp:¬x=p:=fun e=>hpx e.symm);simpa [hxp] using ho,hu⟩);clear ho hu hkl hkr;generalize S.l p=slp at *
 go_enter Tryz.func214,Tryz.ntmps214
 go_upto_region 1 with (fail)
 go_quiet (fail)
 go_upto_region 3 with (fail)
 go_cut [] (fun W=>aa [] (w.setCell ⟨B.ba,p*3+1,none⟩ (.int .i64 (-1))) W)
 case first=>
  go_region_law (fail)
  all_goals
   go_wp2
   go_meet
   first|exact ⟨rfl,rfl,rfl,Nat.le_refl _,fun _ _ _=>rfl⟩|exact ν
 case rest=>
  have hW:=hcut;clear hcut;rename World=>W;have mE:=(HM.out.dG p (-1)).aA hW;have e1:=mE.h1;have e2:=mE.r x hx;rw [HQ.out.1] at e2;have e3:=mE.u x hx;rw [Cm,HQ.out.2] at e3;have e6:=mE.f (x*3+1);have e7:=mE.f (x*3+2);have eu:aa [B.ba] w W:=aa.trans β (hW.mono σ);have HW:=χ (ψ mE eu);clear mE hW eu c1 dl dr du Un Um Vj VV Y9;go_wp2;go_end0;refine ⟨rfl,iq.ext (((HW.out.1.dG x (-1)).sU x (-1)).aA ?_) HE.out,HW.out.2.trans ?_⟩
  ·first|exact ⟨rfl,rfl,rfl,Nat.le_refl _,fun _ _ _=>rfl⟩|exact ν
  ·exact β
end
section
variable {w:World} {B:PB} {F:List Nat} {gt ct:Nat} {A:NS} {st:Nat} {S:TS} {ak:List Int}
theorem V4 (h:iq w B F gt ct A st S ak) (p x:Nat) (hp:p<A.cs.length) (hx:x<A.cs.length) (hpx:p≠x) (hkr:S.r p=x) (hkl:S.l p≠x) (hu:S.u x=p) (o:Nat) (wu:S.r x=o) (hol:o<A.cs.length) (hop:o≠p) (hox:o≠x) :
  Calls Tryz.prog 214 #[.pointer (some ⟨B.n0,0,none⟩),.int .i64 (x:Int)] w fun e w'=>e=.returned (.tuple #[])/\iq w' B F gt ct A st (kK S p true x) ak/\aa [B.ba] w w':=by
 have hA:=h.cells.ok.c1;have c1:=h.h1;have dl:=h.l p hp;have dr:=h.r x hx;have du:=h.u x hx;rw [hu] at du;have ff:=h.f;have Un:=ff (p*3);have Um:=ff (p*3+1);have Vj:=ff (x*3+1);have VV:=ff (x*3+2);have Y9:=h.r p hp;have hsep:=h.sep;have hn1:¬B.n0=B.ba:=hsep.1;have hn2:¬B.ba=B.n0:=fun e=>hsep.1 e.symm;have CR:(x:Int)<(A.cs.length:Int):=ω;have Ye:(p:Int)<(A.cs.length:Int):=ω;have m1:¬x*3+1=p*3:=ω;have m2:¬x*3+1=p*3+1:=ω;have m3:¬x*3+2=p*3:=ω;have m4:¬x*3+2=p*3+1:=ω;have m5:¬p*3=x*3+1:=ω;have m6:¬p*3=x*3+2:=ω;have m7:¬p*3+1=x*3+1:=ω;have m8:¬p*3+1=x*3+2:=ω;have HM:=χ h;clear h ff hsep
 have hq:(S.l p == (x:Int))=false:=by simpa using hkl
 have HE:=χ (E9 S p x o true hpx wu);rw [wu] at dr;have zo:((o:Int) != -1)=true:=σ;have hoI:(o:Int)<(A.cs.length:Int):=ω;have do_:=HM.out.u o hol;have ff5:=HM.out.f (o*3+2);have k1:¬o*3+2=p*3:=ω;have k2:¬o*3+2=p*3+1:=ω;have k3:¬x*3+1=o*3+2:=ω;have k4:¬x*3+2=o*3+2:=ω;have k5:¬o*3+2=x*3+1:=ω;have k6:¬o*3+2=x*3+2:=ω;have HQ:=χ (show (S.aJ p true (o:Int)).r x=o/\S.u x=p from ⟨by unfold TS.aJ;(have hxp:¬x=p:=fun e=>hpx e.symm);simpa [hxp] using wu,hu⟩);clear wu hu hkl hkr;generalize S.l p=slp at *
 go_enter Tryz.func214,Tryz.ntmps214
 go_upto_region 1 with (fail)
 go_quiet (fail)
 go_upto_region 3 with (fail)
 go_cut [] (fun W=>aa [] (w.setCell ⟨B.ba,p*3+1,none⟩ (.int .i64 (o:Int))) W)
 case first=>
  go_region_law (fail)
  all_goals
   go_wp2
   go_meet
   first|exact ⟨rfl,rfl,rfl,Nat.le_refl _,fun _ _ _=>rfl⟩|exact ν
 case rest=>
  have hW:=hcut;clear hcut;rename World=>W;have mE:=(HM.out.dG p (o:Int)).aA hW;have e1:=mE.h1;have e2:=mE.r x hx;rw [HQ.out.1] at e2;have e3:=mE.u x hx;rw [Cm,HQ.out.2] at e3;have e4:=mE.u o hol;have e5:=mE.f (o*3+2);have e6:=mE.f (x*3+1);have e7:=mE.f (x*3+2);have eu:aa [B.ba] w W:=aa.trans β (hW.mono σ);have HW:=χ (ψ mE eu);clear mE hW eu c1 dl dr du Un Um Vj VV ff5 Y9 do_
  go_upto_region 5 with (fail)
  go_region_law (fail)
  all_goals
   go_wp2;go_end0;refine ⟨rfl,iq.ext ((((HW.out.1.sU o p).dG x (-1)).sU x (-1)).aA ?_) HE.out,HW.out.2.trans ?_⟩
   ·first|exact ⟨rfl,rfl,rfl,Nat.le_refl _,fun _ _ _=>rfl⟩|exact ν
   ·exact β
end
section
variable {w:World} {B:PB} {F:List Nat} {gt ct:Nat} {A:NS} {st:Nat} {S:TS} {ak:List Int}
theorem O7 (h:iq w B F gt ct A st S ak) (p x:Nat) (s:Bool) (hp:p<A.cs.length) (hx:x<A.cs.length) (hpx:p≠x) (hk:S.kid s p=x) (hs:s=true->S.l p≠x) (hu:S.u x=p) (hr:S.r x=-1\/(0<=S.r x/\S.r x<A.cs.length)) (hrp:S.r x≠p) (hrx:S.r x≠x) :
  Calls Tryz.prog 214 #[.pointer (some ⟨B.n0,0,none⟩),.int .i64 (x:Int)] w fun e w'=>e=.returned (.tuple #[])/\iq w' B F gt ct A st (kK S p s x) ak/\aa [B.ba] w w':=by
 cases s with
 | false=>
  by_cases ho:S.r x=-1
  ·exact UY h p x hp hx hpx hk hu ho
  ·obtain ⟨o,wu⟩:∃o:Nat,S.r x=o:=⟨(S.r x).toNat,ω⟩;exact UO h p x hp hx hpx hk hu o wu ω (fun e=>hrp (by rw [wu,e])) (fun e=>hrx (by rw [wu,e]))
 | true=>
  by_cases ho:S.r x=-1
  ·exact VR h p x hp hx hpx hk (hs rfl) hu ho
  ·obtain ⟨o,wu⟩:∃o:Nat,S.r x=o:=⟨(S.r x).toNat,ω⟩;exact V4 h p x hp hx hpx hk (hs rfl) hu o wu ω (fun e=>hrp (by rw [wu,e])) (fun e=>hrx (by rw [wu,e]))
end
section
variable {w:World} {B:PB} {F:List Nat} {gt ct:Nat} {A:NS} {st:Nat} {tr:Nat->BT}
theorem iq.sepc {S:TS} {ak:List Int} (h:iq w B F gt ct A st S ak):B.n0∉[B.ba,B.c,gt]/\gt∉[B.ba,B.c]:=by
 have a1:=h.sep;have a2:B.n0≠B.c:=fun e=>h.bI.1 (by rw [e];exact h.cF);have a3:gt≠B.c:=fun e=>h.bI.2.2 (by rw [e];exact h.cF);constructor<;>simp<;>omega
theorem Dm (h:nE w B F gt ct A st tr) (hh x:Nat) (k s:Int) (hk:-9223372036854775808<=k/\k<=9223372036854775807/\0<=s/\s<=18446744073709551615) (hB:oF A hh x=true) :
  Calls Tryz.prog 210 #[.pointer (some ⟨B.n0,0,none⟩),.int .i64 (hh:Int),.int .i64 (x:Int),.agg #[.int .i64 k,.int .u64 s]] w fun e w'=>e=.returned (.bool true)/\aa (B.blk F gt) w w'/\
   ∃st',nE w' B F gt ct (aN A hh x k s) st' (fun q=>if q=hh then dJ (aN A hh x k s) (tr hh) (single x) else tr q):=by
 obtain ⟨S,ak,hM,hI,hL⟩:=h;have hlt:=hM.lt;have ok:=hM.cells.ok;have ok':=yY ok hh x k s hk;obtain ⟨b1,b2,b3⟩:=(fE _ _ _).1 hB;have b4:=(aT _ _).1 b1;have hx:x<A.cs.length:=by have:=(ic _ _).1 b2;omega
 have Pn:(A.c x).i=0:=by
  have:=(ok.nat x hx).1;have h3:¬ (0<(A.c x).i):=fun h'=>by rw [(ai A x).2 ⟨hx,h'⟩] at b3;cases b3
  omega
 have hcs:(aN A hh x k s).cs.length=A.cs.length:=by unfold aN;rw [if_pos hB,fO]
 have lX:(aN A hh x k s).hs.length=A.hs.length:=by unfold aN;rw [if_pos hB];rfl
 have hcx:∀y,(aN A hh x k s).c y=if y=x then ⟨hh,k,s⟩ else A.c y:=fun y=>by
  unfold aN;rw [if_pos hB,π,kV]
  by_cases e:y=x
  ·rw [if_pos ⟨e,hx⟩,if_pos e]
  ·rw [if_neg (fun h=>e h.1),if_neg e]
 have rO:x∉(tr hh).nodes:=hI.out Pn;have hX:((tr hh).nodes++(single x).nodes).Nodup:=by
  rw [θ];refine ⟨hI.nd hh,by simp [single,BT.nodes],fun a ha b hb e=>?_⟩;simp only [single,BT.nodes,List.append_nil,List.mem_singleton] at hb;exact rO (by rw [←hb,←e];exact ha)
 have hin:∀y,y∈(tr hh).nodes++(single x).nodes->bX (aN A hh x k s) (y:Int)=true:=fun y hy=>by
  rw [ai,hcs,hcx];simp only [single,BT.nodes,List.append_nil,τ,List.mem_singleton] at hy
  by_cases e:y=x
  ·rw [if_pos e,e];exact ⟨hx,by show (0:Int)<(hh:Int);omega⟩
  ·rw [if_neg e];have:=(hI.mem hh y).1 (hy.resolve_right e);exact ⟨this.2.1,ω⟩
 have XB:fA (aN A hh x k s) (tr hh):=fA.frame (hI.heap hh) (fun y hy=>by rw [hcx,if_neg (fun e=>rO (by rw [←e];exact hy))]);have mp:=mg (aN A hh x k s) (hL hh) (show Lone (single x) from rfl);have ml:=nG (aN A hh x k s) (hL hh) (show Lone (single x) from rfl);have mh:=qp (hL hh) (show Lone (single x) from rfl) XB (show fA (aN A hh x k s) (single x) from ⟨by simp [BT.nodes],trivial,trivial⟩) hX;have hfr:=hI.free x hx Pn;have hLh:=hL hh
 have FI:Hid (∀ (W:World) (S':TS) (st':Nat),iq W B F gt ct (aN A hh x k s) st' S' (ak.set hh (dJ (aN A hh x k s) (tr hh) (single x)).root)->cO S' (-1) (dJ (aN A hh x k s) (tr hh) (single x)).root (dJ (aN A hh x k s) (tr hh) (single x))->
   (∀y,y∉(tr hh).nodes++(single x).nodes->S.at S' y)->nE W B F gt ct (aN A hh x k s) st' (fun q=>if q=hh then dJ (aN A hh x k s) (tr hh) (single x) else tr q)):=fun W S' st' a1 a2 a4=>by
  refine ⟨S',_,a1,hI.put ok hM.jE hB a2 mp mh a4,fun q=>?_⟩
  show Lone (if q=hh then _ else _)
  split
  ·exact ml
  ·exact hL q
 have Xw:=hI.Dx hh;have htop:=hI.top hh ω;have hgn:hh<ak.length:=by rw [hM.jE];omega
 have u1:aa [] w (w.alloc (.cells #[.int .i64 k,.int .u64 s] 129)):=(aa.refl _ _).alloc _;have kp:=fun W (hW:aa [] (w.alloc (.cells #[.int .i64 k,.int .u64 s] 129)) W)=>oC (hM.cells.aA (u1.trans hW)) hh x k s hk hB;have h0:=hM.h0;have uQ:B.n0∉F:=hM.bI.1;have hsz:w.heap.size∉F:=fun hm=>by have:=hlt w.heap.size (by simp [PB.blk,hm]);omega
 have r0:∀W,aa F (w.alloc (.cells #[.int .i64 k,.int .u64 s] 129)) W->W.cell? ⟨B.n0,0,none⟩=some (.pointer (some ⟨B.c,0,none⟩)):=fun W hW=>hW.kept (u1.was h0) uQ;have r1:∀W,aa F (w.alloc (.cells #[.int .i64 k,.int .u64 s] 129)) W->W.cell? ⟨w.heap.size,0,none⟩=some (.int .i64 k):=fun W h=>h.kept σ hsz;have r2:∀W,aa F (w.alloc (.cells #[.int .i64 k,.int .u64 s] 129)) W->W.cell? ⟨w.heap.size,1,none⟩=some (.int .u64 s):=fun W h=>h.kept σ hsz;have HM:=χ hM;have HH:=χ (ψ hX (ψ hin (ψ Xw (ψ hLh hfr))));have hA:=ok.c1;have Xb:=ok.h1
 clear hM hI hL ok ok' b1 b2 b3 Pn hcx rO hX hin XB mp mh ml hfr h0 hlt Xw hLh;generalize hA':aN A hh x k s=A' at *;generalize htr:tr hh=th at *
 go_enter Tryz.func210,Tryz.ntmps210
 go_wp2
 go_region_held3 (aa F (w.alloc (.cells #[.int .i64 k,.int .u64 s] 129))) (exact ν)
  ((go_at_call 154;(with_reducible refine (kp _ β).mono ?_);rintro e w1 ⟨rfl,jD,hu1⟩;(have hu2:aa F (w.alloc (.cells #[.int .i64 k,.int .u64 s] 129)) w1:=ν)))
 have uF:aa F w (w.alloc (.cells #[.int .i64 k,.int .u64 s] 129)):=u1.mono σ;have hM1:=HM.out.dB (uF.trans hu2) jD (fun y hy=>Or.inl hy) hcs lX;have hw1:aa F w w1:=uF.trans hu2;clear r0 r1 r2 kp hu1 hu2 jD uF;have km:=fun W (hW:aa [] w1 W)=>wK (hM1.aA hW) th (single x) HH.out.2.2.1 (vB HH.out.2.2.2.2) HH.out.2.2.2.1 rfl HH.out.1 HH.out.2.1;rw [show (single x).root=(x:Int) from rfl] at km;have d4:=hM1.jQ.cell hh hgn;rw [htop] at d4;have f4:=hM1.jQ.free hh;have h3:=hM1.h2;obtain ⟨Ef,hgc⟩:=hM1.sepc
 have r3:∀W,aa [B.ba,B.c] w1 W->W.cell? ⟨B.n0,2,none⟩=some (.slice (some ⟨gt,0,none⟩) ak.length ct):=fun W hW=>hW.kept h3 (fun hm=>Ef (by simp at hm ⊢;omega));have r4:∀W,aa [B.ba,B.c] w1 W->W.cell? ⟨gt,hh,none⟩=some (.int .i64 th.root)/\W.frozen? ⟨gt,hh,none⟩=false:=fun W hW=>⟨hW.kept d4 hgc,hW.aR d4 hgc f4⟩
 have BP:(0:Int)<=(hh:Int):=ω;have Gs:(hh:Int)<(ak.length:Int):=ω;generalize hmt:dJ A' th (single x)=mt at *;clear hM1 f4 h3 Ef hgc;have q3:=r3 _ (aa.refl _ _);have q4:=(r4 _ (aa.refl _ _)).1;go_wp2
 go_region_law
  (first
   | (go_simp;go_at_call 215;(with_reducible refine (km _ β).mono ?_);rintro e w5 ⟨rfl,xL,WR,S5,wZ,IL,hs5⟩;(have cu:aa [B.ba,B.c] w1 w5:=aa.trans β xL);obtain ⟨d5,f5⟩:=r4 _ cu;(have q5:=r3 _ cu)))
 all_goals
  go_wp2;go_ret;have qA:=HM.out.cF;have v1:aa (B.blk F gt) w w1:=hw1.mono (fun y hy=>by simp only [PB.blk,ρ];simp [hy])
  have v3:aa (B.blk F gt) w w5:=v1.trans (cu.mono (fun y hy=>by
   simp only [ρ,ς,or_false] at hy;simp only [PB.blk,ρ];rcases hy with rfl|rfl
   ·simp
   ·simp [qA]))
  subst hmt;exact ⟨rfl,v3.setCell (Or.inl (by simp [PB.blk])) _,WR,FI.out _ S5 WR (wZ.qL hh _) IL hs5⟩
end
end Go.Proofs.YtklibcncmbofpaaGreat
