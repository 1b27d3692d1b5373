/-
  Lemmas for ProofHolds: Pa6, Pa4o, Pa4a, Pa4b, Pa4c, Pa4d, Pa4, Pa9, Pa10, PaR2. Conditions: those of each lemma.
-/
import Derived.Test.YtklibcncmbofpaaGreatR18
set_option linter.all false
set_option maxHeartbeats 8000000
set_option maxRecDepth 10000
namespace Go.Proofs.YtklibcncmbofpaaGreat
open Go Go.RowKit
section
variable {w:World}{B:PB}{F:List Nat}{gt ct:Nat}{A:NS}{st:Nat}{S:TS}{aj:List Int}
def OE(w:World)(base:Nat)(v:Value)(xs:List Int):Prop:=w.ownsRow base 3 1 v xs.length (aQ xs)
theorem OE.cell{W:World}{base:Nat}{a:Option Addr}{n c:Nat}{xs:List Int}(h:W.ownsRow base 3 1 (.slice a n c) n (aQ xs)){j:Nat}{y:Int}(hj:xs[j]?=some y):∃g,a=some ⟨g,0,none⟩/\base<=g/\g<W.heap.size/\∀W',aa [] W W'->W'.cell? ⟨g,j,none⟩=some (.int .i64 y):=by
 have hl:=h.1;rw[eZ]at hl;have hjl:j<xs.length:=(List.getElem?_eq_some_iff.1 hj).1;obtain⟨g,cap,e,hb,_⟩:=gJ h ω
 injection e with e1 e2 e3
 subst e1;have hlt:=h.lt g rfl;refine⟨g,rfl,hb,hlt.2,fun W' hW=>hW.was ?_⟩;rw[h.cellAt j ω,nS hjl,φ,hj];rfl
theorem Ae(h:ic w B F gt ct A st S aj)(x:Nat)(hin:bS A (x:Int)=true)(l:BT)(hl:bY S (x:Int) (S.l x) l)(hnd:(x::l.nodes).Nodup)(hinl:∀z,z∈l.nodes->bS A (z:Int)=true)(hsz:l.size<=65536) :
    Calls Tryz.prog 216 #[.pointer (some ⟨B.n0,0,none⟩),.int .i64 (x:Int)] w fun e w'=>e=.returned (.int .i64 (gF A (bU A (bD l))).root)/\aa (B.ba::F) w w'/\∃st' S',ic w' B F gt ct A st' S' aj/\bY S' (-1) (gF A (bU A (bD l))).root (gF A (bU A (bD l)))/\S'.l x=-1/\S'.r x=S.r x/\S'.u x=S.u x/\∀z,z∉x::l.nodes->S.at S' z:=by
  have hx:=(ah _ _).1 hin;have hA:=h.cells.ok.c1;have hlt:∀z,z∈l.nodes->z<A.cs.length:=fun z hz=>((ah _ _).1 (hinl z hz)).1;have kk:=NQ h x hin l hl hlt hsz;have hlen:(bD l).length<=65536:=by have:=FO l;rw[BT.mf]at this;omega
  have HS:=χ (LU.start hl hnd hinl);have hxl:x∉l.nodes:=(List.nodup_cons.1 hnd).1;have hkr:∀ (j:Nat) (k:BT),(bD l)[j]?=some k->∃y:Nat,k.root=(y:Int)/\y<A.cs.length:=fun j k hk=>by
    have h1:=Hw (List.mem_of_getElem? hk);exact⟨_,h1.2.1,hlt _ ((jD l).mem_iff.1 (List.mem_flatMap.2 ⟨k,List.mem_of_getElem? hk,h1.1⟩))⟩
  have HK:=χ (ψ hkr (ψ hxl hlen));have hbl:=h.lt;have hn0:B.n0<w.heap.size/\B.ba<w.heap.size/\∀z,z∈F->z<w.heap.size:=⟨hbl _ (by simp[PB.blk]),hbl _ (by simp[PB.blk]),fun z hz=>hbl z (by simp[PB.blk,hz])⟩;clear hlt hl hnd hinl hkr hxl hbl;generalize hks:bD l=ks at *
  go_enter Tryz.func216,Tryz.ntmps216
  go_upto_region 2 with(first
    | ((go_at_call 217;(with_reducible refine(kk).mono ?_));rintro e w1 ⟨ao,co,rfl,ho,hM1,hu1⟩)
    | fail)
  clear h kk;have hs1:=hu1.size;have c1:=hM1.h1;have dl:=hM1.l x hx.1;have ff:=hM1.f (x*3);have BN:(x:Int)<(A.cs.length:Int):=ω;have HO:=χ (ψ ho (ψ hM1 hu1));clear ho hM1 hu1;obtain⟨hkr,hxl,hlen⟩:=HK.out;clear hkr hxl
  go_upto_region 3 with(fail)
  refine jk (fun W=>ic W B F gt ct A st (S.aH x false (-1)) aj/\aa [B.ba] w1 W) ⟨(HO.out.2.1.Ju x (-1)).au (by first|exact⟨rfl,rfl,rfl,Nat.le_refl _,fun _ _ _=>rfl⟩|exact ν),β⟩ ?_;rintro W ⟨mi,hu2⟩;have HW:=χ (ψ mi hu2);clear mi hu2 c1 dl ff;go_wp2
  go_loopw [7,24] (fun v7 v24 wr=>∃ (j:Nat),j<=ks.length/\v24=.int .i64 (j:Int)/\ic wr B F gt ct A st (gM S x ((dw ks).take j)) aj/\aa [B.ba] w1 wr) (fun _ v24 _=>ks.length-(intOf v24).toNat)
  case atStart=>exact⟨0,Nat.zero_le _,rfl,by rw[List.take_zero];exact HW.out.1.ext (PM S x),HW.out.2⟩
  case round=>
    obtain⟨j,hj,rfl,hM,hu⟩:=hrel;rename World=>wr
    by_cases hjn:j<ks.length
    · obtain⟨t,ht⟩:∃t,ks[j]?=some t:=⟨ks[j],ε hjn⟩
      obtain⟨y,hy,hyl⟩:=HK.out.1 j t ht;have hro:=(ow ht).2;rw[hy]at hro;obtain⟨g,rfl,hg1,hg2,hgc⟩:=OE.cell HO.out.1 hro;have hgr:wr.cell? ⟨g,j,none⟩=some (.int .i64 (y:Int)):=hu.kept (hgc w1 (aa.refl _ _)) ζ;have c1:=hM.h1;have dr:=hM.r y hyl;have du:=hM.u y hyl;have UI:=hM.f (y*3+1);have Uy:=hM.f (y*3+2);have XF:decide ((j:Int)<(ks.length:Int))=true:=ζ;have hyI:(y:Int)<(A.cs.length:Int):=ω;have hn1:¬B.n0=B.ba:=hM.sep.1;have hn2:¬B.ba=B.n0:=fun e=>hM.sep.1 e.symm;have HM:=χ (ψ hM (ψ hu hro));clear hM hu hro hy ht hgc;go_wp2
      go_region_law (fail)
      all_goals
        go_wp2
        go_roundw
        case rel=>
          refine⟨j+1,ω,by go_num,?_,HM.out.2.1.trans β⟩;exact(((HM.out.1.dA y (-1)).sj y (-1)).au (by first|exact⟨rfl,rfl,rfl,Nat.le_refl _,fun _ _ _=>rfl⟩|exact ν)).ext (Lg S x y j (dw ks) HM.out.2.2)
        case measure=>simp[intOf];omega
    · obtain rfl:j=ks.length:=ω
      have XF:decide ((ks.length:Int)<(ks.length:Int))=false:=σ;have e:(dw ks).take ks.length=dw ks:=List.take_of_length_le (by rw[JB];exact Nat.le_refl _);rw[e]at hM;have HM:=χ (ψ hM hu);clear hM hu e;go_wp2;refine jk (fun W=>aa [] wr W) (by first|exact⟨rfl,rfl,rfl,Nat.le_refl _,fun _ _ _=>rfl⟩|exact ν) ?_;intro W2 hW2;have nR:=χ (ψ (HM.out.1.au hW2) (HM.out.2.trans (hW2.mono σ)));have hs2:=nR.out.2.size;clear HM hW2
      go_loopw [8,9] (fun v8 v9 wr=>∃ (j m:Nat) (a2:Option Addr) (c2:Nat) (st':Nat) (S':TS),m=2*j/\j<=(bU A ks).length/\v9=.int .i64 (m:Int)/\v8=.slice a2 j c2/\wr.ownsRow W2.heap.size 3 1 (.slice a2 j c2) j (aQ (dw ((bU A ks).take j)))/\ic wr B F gt ct A st' S' aj/\LU A (gM S x (dw ks)) S' l ((bU A ks).take j++ks.drop m)/\aa [B.ba,B.c] W2 wr) (fun _ v9 _=>ks.length+2-(intOf v9).toNat)
      case atStart=>exact⟨0,0,none,0,st,_,rfl,Nat.zero_le _,rfl,rfl,⟨rfl,Or.inl ⟨rfl,rfl⟩⟩,nR.out.1,by simpa using HS.out,aa.refl _ _⟩
      case round=>
        obtain⟨j,m,a2,c2,st',S',hm,hj,rfl,rfl,ho2,hM,hF,hu⟩:=hrel;rename World=>wr;have htl:=su A ks;have hos:=hu.size;have hbl:∀z,z∈B.blk F gt->z<W2.heap.size:=nR.out.1.lt;have hgb:∀g,g∈(Value.slice a2 j c2).ownBlock.toList->W2.heap.size<=g:=fun g hg=>(ho2.lt g (Option.mem_toList.1 hg)).1;have I8:B.ba<W2.heap.size/\B.c<W2.heap.size:=⟨hbl _ (by simp[PB.blk]),hbl _ (by simp[PB.blk,hM.cF])⟩;have HG:=χ (ψ hbl hgb);have hw1:aa [B.ba,B.c] w1 wr:=(nR.out.2.mono σ).trans hu
        by_cases Oh:m<ks.length
        · have hmI:decide ((m:Int)<(ks.length:Int))=true:=ζ
          have hjb:j<=65536:=ω;have hwr:IntKind.i64.wrap ((m:Int)+1)=(m:Int)+1:=IntWalk.i64_in _ ω
          by_cases hlast:m+1=ks.length
          · obtain⟨t,l1,l2,l3,l4⟩:=O8 A (l:=ks) (j:=j) ω
            rw[←hm]at l1 l2;have hro:=(ow l2).2;obtain⟨g,rfl,hg1,hg2,hgc⟩:=OE.cell HO.out.1 hro;have hgr:wr.cell? ⟨g,m,none⟩=some (.int .i64 t.root):=hw1.kept (hgc w1 (aa.refl _ _)) (by simp;have:=hn0.2.2 _ hM.cF;omega);have hqI:((m:Int)+1 == (ks.length:Int))=true:=ζ;have HL:=χ (ψ hM (ψ hF (ψ hu (ψ l1 (ψ l3 (ψ l4 (ψ hm htl)))))));clear hM hF hu hw1 l1 l2 l3 l4 hro hgc hm htl hlast hbl hgb I8
            go_wp2_with (first
              | ((at_builtin;refine aX rfl _ _ 26 rfl W2.heap.size 3 (.int .i64 0) 1 8 Tryz.underlying26 fF rfl δ _ _ _ rfl (ho2) [.int .i64 t.root] rfl (by simp[Value.oneCell']) (by first|rfl|(rw[World.size_alloc];rfl)) μ ω (ω) ?_;intro v2 w2 ho3 hu3 mQ);obtain⟨a3,c3,rfl,hc3⟩:=bq ho3)
              | fail)
            go_roundw
            case rel=>
              obtain⟨hM,hF,hu,l1,l3,l4,hm,htl⟩:=HL.out;refine⟨j+1,m+2,a3,c3,st',S',ω,ω,by go_num,rfl,?_,hM.upd hu3 (fun g hg hb=>by have:=HG.out.1 g hb;have:=HG.out.2 g hg;omega),?_,hu.joined hu3 (fun g hg=>Or.inr (HG.out.2 g hg))⟩
              · rw[l3,vk,bM];exact ho3
              · rw[show m+2=2*(j+1) by omega,l4,l3,List.append_nil,←l1];exact hF
            case measure=>simp[intOf];omega
          · obtain⟨ta,tb,r,l1,l2,l2b,l3,l4⟩:=NB A (l:=ks) (j:=j) ω
            rw[←hm]at l1 l2 l2b;have hroa:=(ow l2).2;have hrob:=(ow l2b).2;obtain⟨g,rfl,hg1,hg2,hgc⟩:=OE.cell HO.out.1 hroa;obtain⟨g',e', -, -,hgc'⟩:=OE.cell HO.out.1 hrob;cases e';have Zu:g∉[B.ba,B.c]:=by simp;have:=hn0.2.2 _ hM.cF;omega
            have hgr:wr.cell? ⟨g,m,none⟩=some (.int .i64 ta.root):=hw1.kept (hgc w1 (aa.refl _ _)) Zu;have hgr':wr.cell? ⟨g,m+1,none⟩=some (.int .i64 tb.root):=hw1.kept (hgc' w1 (aa.refl _ _)) Zu;have hqI:((m:Int)+1 == (ks.length:Int))=false:=ζ;have hm1:m+1<ks.length:=ω;have hm1I:(m:Int)+1<(ks.length:Int):=ω;have hm0I:(0:Int)<=(m:Int)+1:=ω;rw[l1]at hF;obtain⟨t1,t2,t3,t4,t5,t6⟩:=hF.fo.two;have kl:=fun W (hW:aa [] wr W)=>wZ (hM.au hW) ta tb t1 t2 t3 t4 t5 t6;have HL:=χ (ψ hF (ψ hu (ψ l3 (ψ l4 (ψ hm htl)))))
            clear hM hF hu hw1 l1 l2 l2b l3 l4 hroa hrob hgc hgc' hm htl hlast hbl hgb t1 t2 t3 t4 t5 t6 Zu;have hcb:∀k,(Value.slice a2 j c2).ownBlock=some k->k∉[B.ba,B.c]:=fun k hk=>by have:=HG.out.2 k (Option.mem_toList.2 hk);simp;omega
            have HC:=χ hcb;clear hcb
            go_upto_region 14 with(fail)
            go_region_law (first
              | (go_simp;go_at_call 215;(with_reducible refine(kl _ β).mono ?_);rintro e w3 ⟨rfl,Xe,st3,S3,jR,BA,hf3⟩;(have hu3:aa [B.ba,B.c] wr w3:=aa.trans β Xe);(have ho3:=aC ho2 hu3 HC.out);(have hos3:=hu3.size))
              | (refine j4 rfl _ _ 26 rfl W2.heap.size 3 (.int .i64 0) 1 8 Tryz.underlying26 fF rfl δ (.slice a2 j c2) j (aQ (dw ((bU A ks).take j))) rfl (ho3.alloc _) w3.heap.size [.int .i64 (dD A ta tb).root] rfl rfl (fun i u hi=>mP w3 [.int .i64 (dD A ta tb).root] 3 i u hi) (by simp[Value.oneCell']) μ ω ζ ?_
                 intro v2 w2 P7 hu4a hv2;have gX:aa (Value.slice a2 j c2).ownBlock.toList w3 w2:=aa.trans ((aa.refl _ _).alloc _) hu4a
                 obtain⟨a3,c3,rfl,hc3⟩:=bq P7)
              | fail)
            all_goals
              go_wp2
              go_roundw
              case rel=>
                obtain⟨hF,hu,l3,l4,hm,htl⟩:=HL.out;refine⟨j+1,m+2,a3,c3,st3,S3,ω,ω,by go_num,rfl,?_,jR.upd gX (fun g hg hb=>by have:=HG.out.1 g hb;have:=HG.out.2 g hg;omega),?_,(hu.trans hu3).joined gX (fun g hg=>Or.inr (HG.out.2 g hg))⟩
                · rw[l4,vk,bM];exact P7
                · rw[show m+2=2*(j+1) by omega,←l3,l4,List.append_assoc];exact hF.link BA hf3
              case measure=>simp[intOf];omega
        · have hmI:decide ((m:Int)<(ks.length:Int))=false:=ζ
          have hjl:j=(bU A ks).length:=ω;have hdr:ks.drop m=[]:=List.drop_eq_nil_of_le ω;rw[SE A ω]at ho2 hF;rw[hdr,List.append_nil]at hF;have htn:(bU A ks).length<=65536:=ω;generalize htw:bU A ks=tw at *;subst hjl;have hF2:=hF.nil;have HL:=χ (ψ hM (ψ hF2 (ψ hw1 htw)));have HO2:=χ ho2;clear hM hF hu hw1 hF2 ho2 hdr hm hj htl hbl hgb htw;go_wp2;refine jk (fun W=>aa [] wr W) (by first|exact⟨rfl,rfl,rfl,Nat.le_refl _,fun _ _ _=>rfl⟩|exact ν) ?_;intro W3 hW3;have HW3:=χ hW3;clear hW3
          go_loopw [10,11] (fun v10 v11 wr3=>∃ (i st3:Nat) (S3:TS),i<=tw.length/\v11=.int .i64 ((i:Int)-1)/\v10=.int .i64 (gF A (tw.drop i)).root/\ic wr3 B F gt ct A st3 S3 aj/\LU A (gM S x (dw ks)) S3 l (tw.take i++[gF A (tw.drop i)])/\aa [B.ba,B.c] W3 wr3) (fun _ v11 _=>((intOf v11)+1).toNat)
          case atStart=>
            have e1:tw.drop tw.length=[]:=List.drop_length;have e2:tw.take tw.length=tw:=List.take_length;refine⟨tw.length,st',S',Nat.le_refl _,by go_num,by rw[e1];rfl,HL.out.1.au HW3.out,?_,aa.refl _ _⟩;rw[e1,e2];exact HL.out.2.1
          case round=>
            obtain⟨i,st3,S3,hi,hz,rfl,hM,hF,hu⟩:=hrel;rename World=>wr3;cases i with
            | zero=>
              have hz2:((0:Nat):Int)-1=-1:=rfl;rw[hz2]at hz;subst hz;rw[List.drop_zero,List.take_zero,List.nil_append]at hF;simp only[List.drop_zero];have HR:=χ (ψ hM (ψ hF hu));clear hM hF hu;go_wp2;go_ret;obtain⟨hM,hF,hu⟩:=HR.out;have htw:=HL.out.2.2.2;subst htw;have hc:=hM.cF;have v1:aa [B.ba,B.c] w1 wr3:=(HL.out.2.2.1.trans (HW3.out.mono σ)).trans hu;exact⟨rfl,(HO.out.2.2.mono (by simp +contextual)).trans (v1.mono (by simp[hc])),st3,S3,hM,(show LU A (gM S x (dw (bD l))) _ l [gF A (bU A ks)] by rw[hks];exact hF).done HK.out.2.1⟩
            | succ i0=>
              have hz2:((i0+1:Nat):Int)-1=(i0:Int):=ω;rw[hz2]at hz;subst hz;have hil:i0<tw.length:=ω;obtain⟨q1,q2⟩:=Ph A hil;have hro:=(ow (ε hil)).2;obtain⟨g,rfl,hg1,hg2,hgc⟩:=OE.cell HO2.out hro;have hgr:wr3.cell? ⟨g,i0,none⟩=some (.int .i64 (tw[i0]).root):=hu.kept (hgc W3 HW3.out) ζ;rw[q1,List.append_assoc]at hF;obtain⟨t1,t2,t3,t4,t5,t6⟩:=hF.fo.two;have kl:=wZ hM tw[i0] (gF A (tw.drop (i0+1))) t1 t2 t3 t4 t5 t6;rw[←q2]at kl;have HR:=χ (ψ hF (ψ hu q2));have Y8:decide ((i0:Int)≥0)=true:=σ;clear hM hF hu hgc hro q1 q2 t1 t2 t3 t4 t5 t6;generalize Fu:tw[i0]=ta at *
              generalize htb:gF A (tw.drop (i0+1))=tb at *
              go_wp2_with (first
                | (go_at_call 215;(with_reducible refine(kl).mono ?_);rintro e w3 ⟨rfl,hu3,Xr,S4,rW,PU,hf4⟩)
                | fail)
              go_roundw
              case rel=>
                obtain⟨hF,hu,q2⟩:=HR.out;refine⟨i0,Xr,S4,ω,by go_num,rfl,rW,?_,hu.trans hu3⟩;rw[q2]at PU⊢;exact hF.link PU hf4
              case measure=>first|(simp[intOf];done)|(simp[intOf];omega)
end
theorem GG(S:TS)(p x:Nat)(s:Bool)(hpx:p≠x)(h:S.r x=-1):∀z,(kK S p s x).l z=(((S.aH p s (-1)).aH x true (-1)).bR x (-1)).l z/\(kK S p s x).r z=(((S.aH p s (-1)).aH x true (-1)).bR x (-1)).r z/\(kK S p s x).u z=(((S.aH p s (-1)).aH x true (-1)).bR x (-1)).u z:=fun z=>by
 unfold kK TS.aH TS.bR;rw[h];have:¬ (z:Int)=-1:=ω;cases s<;>simp[this]
theorem FT(S:TS)(p x o:Nat)(s:Bool)(hpx:p≠x)(h:S.r x=o):∀z,(kK S p s x).l z=((((S.aH p s o).bR o p).aH x true (-1)).bR x (-1)).l z/\(kK S p s x).r z=((((S.aH p s o).bR o p).aH x true (-1)).bR x (-1)).r z/\(kK S p s x).u z=((((S.aH p s o).bR o p).aH x true (-1)).bR x (-1)).u z:=fun z=>by
 unfold kK TS.aH TS.bR;rw[h];have:((z:Int)=(o:Int))=(z=o):=propext ⟨fun h=>ω,fun h=>ω⟩;simp only[this];cases s<;>simp
section
variable {w:World}{B:PB}{F:List Nat}{gt ct:Nat}{A:NS}{st:Nat}{S:TS}{aj:List Int}
theorem Vz(h:ic w B F gt ct A st S aj)(p x:Nat)(hp:p<A.cs.length)(hx:x<A.cs.length)(hpx:p≠x)(hkl:S.l p=x)(hu:S.u x=p)(ho:S.r x=-1) :
  Calls Tryz.prog 214 #[.pointer (some ⟨B.n0,0,none⟩),.int .i64 (x:Int)] w fun e w'=>e=.returned (.tuple #[])/\ic w' B F gt ct A st (kK S p false x) aj/\aa [B.ba] w w':=by
 have hA:=h.cells.ok.c1;have c1:=h.h1;have dl:=h.l p hp;have dr:=h.r x hx;have du:=h.u x hx;rw[hu]at du;have ff:=h.f;have UI:=ff (p*3);have Uy:=ff (p*3+1);have VB:=ff (x*3+1);have WO:=ff (x*3+2);have Zj:=h.r p hp;have hsep:=h.sep;have hn1:¬B.n0=B.ba:=hsep.1;have hn2:¬B.ba=B.n0:=fun e=>hsep.1 e.symm;have BN:(x:Int)<(A.cs.length:Int):=ω;have ZF:(p:Int)<(A.cs.length:Int):=ω;have m1:¬x*3+1=p*3:=ω;have m2:¬x*3+1=p*3+1:=ω;have m3:¬x*3+2=p*3:=ω;have m4:¬x*3+2=p*3+1:=ω;have m5:¬p*3=x*3+1:=ω;have m6:¬p*3=x*3+2:=ω;have m7:¬p*3+1=x*3+1:=ω;have m8:¬p*3+1=x*3+2:=ω;have HM:=χ h;clear h ff hsep;rw[hkl]at dl
 have hq:((x:Int) == (x:Int))=true:=σ;have HE:=χ (GG S p x false hpx ho);rw[ho]at dr;have hlr:((-1:Int) != -1)=false:=σ;have HQ:=χ (show(S.aH p false (-1)).r x=-1/\S.u x=p from⟨by unfold TS.aH;(have hxp:¬x=p:=fun e=>hpx e.symm);simpa[hxp]using ho,hu⟩);clear ho hu hkl;generalize S.l p=slp at *
 go_enter Tryz.func214,Tryz.ntmps214
 go_upto_region 1 with(fail)
 go_quiet (fail)
 go_upto_region 2 with(fail)
 go_cut [] (fun W=>aa [] (w.setCell ⟨B.ba,p*3,none⟩ (.int .i64 (-1))) W)
 case first=>
  go_region_law (fail)
  all_goals
   go_wp2
   go_meet
   first|exact⟨rfl,rfl,rfl,Nat.le_refl _,fun _ _ _=>rfl⟩|exact ν
 case rest=>
  have hW:=hcut;clear hcut;rename World=>W;have mi:=(HM.out.Ju p (-1)).au hW;have e1:=mi.h1;have e2:=mi.r x hx;rw[HQ.out.1]at e2;have e3:=mi.u x hx;rw[Cu,HQ.out.2]at e3;have e6:=mi.f (x*3+1);have e7:=mi.f (x*3+2);have eu:aa [B.ba] w W:=aa.trans β (hW.mono σ);have HW:=χ (ψ mi eu);clear mi hW eu c1 dl dr du UI Uy VB WO Zj;go_wp2;go_end0;refine⟨rfl,ic.ext (((HW.out.1.dA x (-1)).sj x (-1)).au ?_) HE.out,HW.out.2.trans ?_⟩
  ·first|exact⟨rfl,rfl,rfl,Nat.le_refl _,fun _ _ _=>rfl⟩|exact ν
  ·exact β
end
section
variable {w:World}{B:PB}{F:List Nat}{gt ct:Nat}{A:NS}{st:Nat}{S:TS}{aj:List Int}
theorem Xf(h:ic w B F gt ct A st S aj)(p x:Nat)(hp:p<A.cs.length)(hx:x<A.cs.length)(hpx:p≠x)(hkl:S.l p=x)(hu:S.u x=p)(o:Nat)(wI:S.r x=o)(hol:o<A.cs.length)(hop:o≠p)(hox:o≠x) :
  Calls Tryz.prog 214 #[.pointer (some ⟨B.n0,0,none⟩),.int .i64 (x:Int)] w fun e w'=>e=.returned (.tuple #[])/\ic w' B F gt ct A st (kK S p false x) aj/\aa [B.ba] w w':=by
 have hA:=h.cells.ok.c1;have c1:=h.h1;have dl:=h.l p hp;have dr:=h.r x hx;have du:=h.u x hx;rw[hu]at du;have ff:=h.f;have UI:=ff (p*3);have Uy:=ff (p*3+1);have VB:=ff (x*3+1);have WO:=ff (x*3+2);have Zj:=h.r p hp;have hsep:=h.sep;have hn1:¬B.n0=B.ba:=hsep.1;have hn2:¬B.ba=B.n0:=fun e=>hsep.1 e.symm;have BN:(x:Int)<(A.cs.length:Int):=ω;have ZF:(p:Int)<(A.cs.length:Int):=ω;have m1:¬x*3+1=p*3:=ω;have m2:¬x*3+1=p*3+1:=ω;have m3:¬x*3+2=p*3:=ω;have m4:¬x*3+2=p*3+1:=ω;have m5:¬p*3=x*3+1:=ω;have m6:¬p*3=x*3+2:=ω;have m7:¬p*3+1=x*3+1:=ω;have m8:¬p*3+1=x*3+2:=ω;have HM:=χ h;clear h ff hsep;rw[hkl]at dl
 have hq:((x:Int) == (x:Int))=true:=σ;have HE:=χ (FT S p x o false hpx wI);rw[wI]at dr;have BF:((o:Int) != -1)=true:=σ;have hoI:(o:Int)<(A.cs.length:Int):=ω;have do_:=HM.out.u o hol;have ff5:=HM.out.f (o*3+2);have k1:¬o*3+2=p*3:=ω;have k2:¬o*3+2=p*3+1:=ω;have k3:¬x*3+1=o*3+2:=ω;have k4:¬x*3+2=o*3+2:=ω;have k5:¬o*3+2=x*3+1:=ω;have k6:¬o*3+2=x*3+2:=ω;have HQ:=χ (show(S.aH p false (o:Int)).r x=o/\S.u x=p from⟨by unfold TS.aH;(have hxp:¬x=p:=fun e=>hpx e.symm);simpa[hxp]using wI,hu⟩);clear wI hu hkl;generalize S.l p=slp at *
 go_enter Tryz.func214,Tryz.ntmps214
 go_upto_region 1 with(fail)
 go_quiet (fail)
 go_upto_region 2 with(fail)
 go_cut [] (fun W=>aa [] (w.setCell ⟨B.ba,p*3,none⟩ (.int .i64 (o:Int))) W)
 case first=>
  go_region_law (fail)
  all_goals
   go_wp2
   go_meet
   first|exact⟨rfl,rfl,rfl,Nat.le_refl _,fun _ _ _=>rfl⟩|exact ν
 case rest=>
  have hW:=hcut;clear hcut;rename World=>W;have mi:=(HM.out.Ju p (o:Int)).au hW;have e1:=mi.h1;have e2:=mi.r x hx;rw[HQ.out.1]at e2;have e3:=mi.u x hx;rw[Cu,HQ.out.2]at e3;have e4:=mi.u o hol;have e5:=mi.f (o*3+2);have e6:=mi.f (x*3+1);have e7:=mi.f (x*3+2);have eu:aa [B.ba] w W:=aa.trans β (hW.mono σ);have HW:=χ (ψ mi eu);clear mi hW eu c1 dl dr du UI Uy VB WO ff5 Zj do_
  go_upto_region 5 with(fail)
  go_region_law (fail)
  all_goals
   go_wp2;go_end0;refine⟨rfl,ic.ext ((((HW.out.1.sj o p).dA x (-1)).sj x (-1)).au ?_) HE.out,HW.out.2.trans ?_⟩
   ·first|exact⟨rfl,rfl,rfl,Nat.le_refl _,fun _ _ _=>rfl⟩|exact ν
   ·exact β
end
section
variable {w:World}{B:PB}{F:List Nat}{gt ct:Nat}{A:NS}{st:Nat}{S:TS}{aj:List Int}
theorem UO(h:ic w B F gt ct A st S aj)(p x:Nat)(hp:p<A.cs.length)(hx:x<A.cs.length)(hpx:p≠x)(hkr:S.r p=x)(hkl:S.l p≠x)(hu:S.u x=p)(ho:S.r x=-1) :
  Calls Tryz.prog 214 #[.pointer (some ⟨B.n0,0,none⟩),.int .i64 (x:Int)] w fun e w'=>e=.returned (.tuple #[])/\ic w' B F gt ct A st (kK S p true x) aj/\aa [B.ba] w w':=by
 have hA:=h.cells.ok.c1;have c1:=h.h1;have dl:=h.l p hp;have dr:=h.r x hx;have du:=h.u x hx;rw[hu]at du;have ff:=h.f;have UI:=ff (p*3);have Uy:=ff (p*3+1);have VB:=ff (x*3+1);have WO:=ff (x*3+2);have Zj:=h.r p hp;have hsep:=h.sep;have hn1:¬B.n0=B.ba:=hsep.1;have hn2:¬B.ba=B.n0:=fun e=>hsep.1 e.symm;have BN:(x:Int)<(A.cs.length:Int):=ω;have ZF:(p:Int)<(A.cs.length:Int):=ω;have m1:¬x*3+1=p*3:=ω;have m2:¬x*3+1=p*3+1:=ω;have m3:¬x*3+2=p*3:=ω;have m4:¬x*3+2=p*3+1:=ω;have m5:¬p*3=x*3+1:=ω;have m6:¬p*3=x*3+2:=ω;have m7:¬p*3+1=x*3+1:=ω;have m8:¬p*3+1=x*3+2:=ω;have HM:=χ h;clear h ff hsep
 have hq:(S.l p == (x:Int))=false:=by simpa using hkl
 have HE:=χ (GG S p x true hpx ho);rw[ho]at dr;have hlr:((-1:Int) != -1)=false:=σ;have HQ:=χ (show(S.aH p true (-1)).r x=-1/\S.u x=p from⟨by unfold TS.aH;(have hxp:¬x=p:=fun e=>hpx e.symm);simpa[hxp]using ho,hu⟩);clear ho hu hkl hkr;generalize S.l p=slp at *
 go_enter Tryz.func214,Tryz.ntmps214
 go_upto_region 1 with(fail)
 go_quiet (fail)
 go_upto_region 3 with(fail)
 go_cut [] (fun W=>aa [] (w.setCell ⟨B.ba,p*3+1,none⟩ (.int .i64 (-1))) W)
 case first=>
  go_region_law (fail)
  all_goals
   go_wp2
   go_meet
   first|exact⟨rfl,rfl,rfl,Nat.le_refl _,fun _ _ _=>rfl⟩|exact ν
 case rest=>
  have hW:=hcut;clear hcut;rename World=>W;have mi:=(HM.out.dA p (-1)).au hW;have e1:=mi.h1;have e2:=mi.r x hx;rw[HQ.out.1]at e2;have e3:=mi.u x hx;rw[Cu,HQ.out.2]at e3;have e6:=mi.f (x*3+1);have e7:=mi.f (x*3+2);have eu:aa [B.ba] w W:=aa.trans β (hW.mono σ);have HW:=χ (ψ mi eu);clear mi hW eu c1 dl dr du UI Uy VB WO Zj;go_wp2;go_end0;refine⟨rfl,ic.ext (((HW.out.1.dA x (-1)).sj x (-1)).au ?_) HE.out,HW.out.2.trans ?_⟩
  ·first|exact⟨rfl,rfl,rfl,Nat.le_refl _,fun _ _ _=>rfl⟩|exact ν
  ·exact β
end
section
variable {w:World}{B:PB}{F:List Nat}{gt ct:Nat}{A:NS}{st:Nat}{S:TS}{aj:List Int}
theorem VL(h:ic w B F gt ct A st S aj)(p x:Nat)(hp:p<A.cs.length)(hx:x<A.cs.length)(hpx:p≠x)(hkr:S.r p=x)(hkl:S.l p≠x)(hu:S.u x=p)(o:Nat)(wI:S.r x=o)(hol:o<A.cs.length)(hop:o≠p)(hox:o≠x) :
  Calls Tryz.prog 214 #[.pointer (some ⟨B.n0,0,none⟩),.int .i64 (x:Int)] w fun e w'=>e=.returned (.tuple #[])/\ic w' B F gt ct A st (kK S p true x) aj/\aa [B.ba] w w':=by
 have hA:=h.cells.ok.c1;have c1:=h.h1;have dl:=h.l p hp;have dr:=h.r x hx;have du:=h.u x hx;rw[hu]at du;have ff:=h.f;have UI:=ff (p*3);have Uy:=ff (p*3+1);have VB:=ff (x*3+1);have WO:=ff (x*3+2);have Zj:=h.r p hp;have hsep:=h.sep;have hn1:¬B.n0=B.ba:=hsep.1;have hn2:¬B.ba=B.n0:=fun e=>hsep.1 e.symm;have BN:(x:Int)<(A.cs.length:Int):=ω;have ZF:(p:Int)<(A.cs.length:Int):=ω;have m1:¬x*3+1=p*3:=ω;have m2:¬x*3+1=p*3+1:=ω;have m3:¬x*3+2=p*3:=ω;have m4:¬x*3+2=p*3+1:=ω;have m5:¬p*3=x*3+1:=ω;have m6:¬p*3=x*3+2:=ω;have m7:¬p*3+1=x*3+1:=ω;have m8:¬p*3+1=x*3+2:=ω;have HM:=χ h;clear h ff hsep
 have hq:(S.l p == (x:Int))=false:=by simpa using hkl
 have HE:=χ (FT S p x o true hpx wI);rw[wI]at dr;have BF:((o:Int) != -1)=true:=σ;have hoI:(o:Int)<(A.cs.length:Int):=ω;have do_:=HM.out.u o hol;have ff5:=HM.out.f (o*3+2);have k1:¬o*3+2=p*3:=ω;have k2:¬o*3+2=p*3+1:=ω;have k3:¬x*3+1=o*3+2:=ω;have k4:¬x*3+2=o*3+2:=ω;have k5:¬o*3+2=x*3+1:=ω;have k6:¬o*3+2=x*3+2:=ω;have HQ:=χ (show(S.aH p true (o:Int)).r x=o/\S.u x=p from⟨by unfold TS.aH;(have hxp:¬x=p:=fun e=>hpx e.symm);simpa[hxp]using wI,hu⟩);clear wI hu hkl hkr;generalize S.l p=slp at *
 go_enter Tryz.func214,Tryz.ntmps214
 go_upto_region 1 with(fail)
 go_quiet (fail)
 go_upto_region 3 with(fail)
 go_cut [] (fun W=>aa [] (w.setCell ⟨B.ba,p*3+1,none⟩ (.int .i64 (o:Int))) W)
 case first=>
  go_region_law (fail)
  all_goals
   go_wp2
   go_meet
   first|exact⟨rfl,rfl,rfl,Nat.le_refl _,fun _ _ _=>rfl⟩|exact ν
 case rest=>
  have hW:=hcut;clear hcut;rename World=>W;have mi:=(HM.out.dA p (o:Int)).au hW;have e1:=mi.h1;have e2:=mi.r x hx;rw[HQ.out.1]at e2;have e3:=mi.u x hx;rw[Cu,HQ.out.2]at e3;have e4:=mi.u o hol;have e5:=mi.f (o*3+2);have e6:=mi.f (x*3+1);have e7:=mi.f (x*3+2);have eu:aa [B.ba] w W:=aa.trans β (hW.mono σ);have HW:=χ (ψ mi eu);clear mi hW eu c1 dl dr du UI Uy VB WO ff5 Zj do_
  go_upto_region 5 with(fail)
  go_region_law (fail)
  all_goals
   go_wp2;go_end0;refine⟨rfl,ic.ext ((((HW.out.1.sj o p).dA x (-1)).sj x (-1)).au ?_) HE.out,HW.out.2.trans ?_⟩
   ·first|exact⟨rfl,rfl,rfl,Nat.le_refl _,fun _ _ _=>rfl⟩|exact ν
   ·exact β
end
section
variable {w:World}{B:PB}{F:List Nat}{gt ct:Nat}{A:NS}{st:Nat}{S:TS}{aj:List Int}
theorem OT(h:ic w B F gt ct A st S aj)(p x:Nat)(s:Bool)(hp:p<A.cs.length)(hx:x<A.cs.length)(hpx:p≠x)(hk:S.kid s p=x)(hs:s=true->S.l p≠x)(hu:S.u x=p)(hr:S.r x=-1\/(0<=S.r x/\S.r x<A.cs.length))(hrp:S.r x≠p)(hrx:S.r x≠x) :
  Calls Tryz.prog 214 #[.pointer (some ⟨B.n0,0,none⟩),.int .i64 (x:Int)] w fun e w'=>e=.returned (.tuple #[])/\ic w' B F gt ct A st (kK S p s x) aj/\aa [B.ba] w w':=by
 cases s with
 | false=>
  by_cases ho:S.r x=-1
  ·exact Vz h p x hp hx hpx hk hu ho
  ·obtain⟨o,wI⟩:∃o:Nat,S.r x=o:=⟨(S.r x).toNat,ω⟩;exact Xf h p x hp hx hpx hk hu o wI ω (fun e=>hrp (by rw[wI,e])) (fun e=>hrx (by rw[wI,e]))
 | true=>
  by_cases ho:S.r x=-1
  ·exact UO h p x hp hx hpx hk (hs rfl) hu ho
  ·obtain⟨o,wI⟩:∃o:Nat,S.r x=o:=⟨(S.r x).toNat,ω⟩;exact VL h p x hp hx hpx hk (hs rfl) hu o wI ω (fun e=>hrp (by rw[wI,e])) (fun e=>hrx (by rw[wI,e]))
end
section
variable {w:World}{B:PB}{F:List Nat}{gt ct:Nat}{A:NS}{st:Nat}{tr:Nat->BT}
theorem ic.sepc{S:TS}{aj:List Int}(h:ic w B F gt ct A st S aj):B.n0∉[B.ba,B.c,gt]/\gt∉[B.ba,B.c]:=by
 have a1:=h.sep;have a2:B.n0≠B.c:=fun e=>h.bG.1 (by rw[e];exact h.cF);have a3:gt≠B.c:=fun e=>h.bG.2.2 (by rw[e];exact h.cF);constructor<;>simp<;>omega
theorem EK(h:nA w B F gt ct A st tr)(hh x:Nat)(k s:Int)(hk:-9223372036854775808<=k/\k<=9223372036854775807/\0<=s/\s<=18446744073709551615)(hB:oG A hh x=true) :
  Calls Tryz.prog 210 #[.pointer (some ⟨B.n0,0,none⟩),.int .i64 (hh:Int),.int .i64 (x:Int),.agg #[.int .i64 k,.int .u64 s]] w fun e w'=>e=.returned (.bool true)/\aa (B.blk F gt) w w'/\
   ∃st',nA w' B F gt ct (aK A hh x k s) st' (fun q=>if q=hh then dD (aK A hh x k s) (tr hh) (single x)else tr q):=by
 obtain⟨S,aj,hM,hI,hL⟩:=h;have hlt:=hM.lt;have ok:=hM.cells.ok;have ok':=zm ok hh x k s hk;obtain⟨b1,b2,b3⟩:=(fB _ _ _).1 hB;have b4:=(aV _ _).1 b1;have hx:x<A.cs.length:=by have:=(gU _ _).1 b2;omega
 have P6:(A.c x).i=0:=by
  have:=(ok.nat x hx).1;have h3:¬ (0<(A.c x).i):=fun h'=>by rw[(ah A x).2 ⟨hx,h'⟩]at b3;cases b3
  omega
 have hcs:(aK A hh x k s).cs.length=A.cs.length:=by unfold aK;rw[if_pos hB,fI]
 have lT:(aK A hh x k s).hs.length=A.hs.length:=by unfold aK;rw[if_pos hB];rfl
 have hcx:∀y,(aK A hh x k s).c y=if y=x then ⟨hh,k,s⟩else A.c y:=fun y=>by
  unfold aK;rw[if_pos hB,π,kH]
  by_cases e:y=x
  ·rw[if_pos ⟨e,hx⟩,if_pos e]
  ·rw[if_neg (fun h=>e h.1),if_neg e]
 have vv:x∉(tr hh).nodes:=hI.out P6;have hX:((tr hh).nodes++(single x).nodes).Nodup:=by
  rw[θ];refine⟨hI.nd hh,by simp[single,BT.nodes],fun a ha b hb e=>?_⟩;simp only[single,BT.nodes,List.append_nil,List.mem_singleton]at hb;exact vv (by rw[←hb,←e];exact ha)
 have hin:∀y,y∈(tr hh).nodes++(single x).nodes->bS (aK A hh x k s) (y:Int)=true:=fun y hy=>by
  rw[ah,hcs,hcx];simp only[single,BT.nodes,List.append_nil,τ,List.mem_singleton]at hy
  by_cases e:y=x
  ·rw[if_pos e,e];exact⟨hx,by show(0:Int)<(hh:Int);omega⟩
  ·rw[if_neg e];have:=(hI.mem hh y).1 (hy.resolve_right e);exact⟨this.2.1,ω⟩
 have Xm:eU (aK A hh x k s) (tr hh):=eU.frame (hI.heap hh) (fun y hy=>by rw[hcx,if_neg (fun e=>vv (by rw[←e];exact hy))]);have mp:=lX (aK A hh x k s) (hL hh) (show Lone (single x)from rfl);have ml:=nL (aK A hh x k s) (hL hh) (show Lone (single x)from rfl);have mh:=pR (hL hh) (show Lone (single x)from rfl) Xm (show eU (aK A hh x k s) (single x)from⟨by simp[BT.nodes],trivial,trivial⟩) hX;have hfr:=hI.free x hx P6;have hLh:=hL hh
 have FI:Hid (∀ (W:World) (S':TS) (st':Nat),ic W B F gt ct (aK A hh x k s) st' S' (aj.set hh (dD (aK A hh x k s) (tr hh) (single x)).root)->bY S' (-1) (dD (aK A hh x k s) (tr hh) (single x)).root (dD (aK A hh x k s) (tr hh) (single x))->
   (∀y,y∉(tr hh).nodes++(single x).nodes->S.at S' y)->nA W B F gt ct (aK A hh x k s) st' (fun q=>if q=hh then dD (aK A hh x k s) (tr hh) (single x)else tr q)):=fun W S' st' a1 a2 a4=>by
  refine⟨S',_,a1,hI.put ok hM.jw hB a2 mp mh a4,fun q=>?_⟩
  show Lone (if q=hh then _ else _)
  split
  ·exact ml
  ·exact hL q
 have Xp:=hI.Ec hh;have htop:=hI.top hh ω;have hgn:hh<aj.length:=by rw[hM.jw];omega
 have u1:aa [] w (w.alloc (.cells #[.int .i64 k,.int .u64 s] 129)):=(aa.refl _ _).alloc _;have kp:=fun W (hW:aa [] (w.alloc (.cells #[.int .i64 k,.int .u64 s] 129)) W)=>nW (hM.cells.au (u1.trans hW)) hh x k s hk hB;have h0:=hM.h0;have uW:B.n0∉F:=hM.bG.1;have hsz:w.heap.size∉F:=fun hm=>by have:=hlt w.heap.size (by simp[PB.blk,hm]);omega
 have r0:∀W,aa F (w.alloc (.cells #[.int .i64 k,.int .u64 s] 129)) W->W.cell? ⟨B.n0,0,none⟩=some (.pointer (some ⟨B.c,0,none⟩)):=fun W hW=>hW.kept (u1.was h0) uW;have r1:∀W,aa F (w.alloc (.cells #[.int .i64 k,.int .u64 s] 129)) W->W.cell? ⟨w.heap.size,0,none⟩=some (.int .i64 k):=fun W h=>h.kept σ hsz;have r2:∀W,aa F (w.alloc (.cells #[.int .i64 k,.int .u64 s] 129)) W->W.cell? ⟨w.heap.size,1,none⟩=some (.int .u64 s):=fun W h=>h.kept σ hsz;have HM:=χ hM;have HH:=χ (ψ hX (ψ hin (ψ Xp (ψ hLh hfr))));have hA:=ok.c1;have XZ:=ok.h1
 clear hM hI hL ok ok' b1 b2 b3 P6 hcx vv hX hin Xm mp mh ml hfr h0 hlt Xp hLh;generalize hA':aK A hh x k s=A' at *;generalize htr:tr hh=th at *
 go_enter Tryz.func210,Tryz.ntmps210
 go_wp2
 go_region_held3 (aa F (w.alloc (.cells #[.int .i64 k,.int .u64 s] 129))) (exact ν)
  ((go_at_call 154;(with_reducible refine(kp _ β).mono ?_);rintro e w1 ⟨rfl,jr,hu1⟩;(have hu2:aa F (w.alloc (.cells #[.int .i64 k,.int .u64 s] 129)) w1:=ν)))
 have uF:aa F w (w.alloc (.cells #[.int .i64 k,.int .u64 s] 129)):=u1.mono σ;have hM1:=HM.out.cB (uF.trans hu2) jr (fun y hy=>Or.inl hy) hcs lT;have hw1:aa F w w1:=uF.trans hu2;clear r0 r1 r2 kp hu1 hu2 jr uF;have km:=fun W (hW:aa [] w1 W)=>wZ (hM1.au hW) th (single x) HH.out.2.2.1 (vM HH.out.2.2.2.2) HH.out.2.2.2.1 rfl HH.out.1 HH.out.2.1;rw[show(single x).root=(x:Int)from rfl]at km;have d4:=hM1.jH.cell hh hgn;rw[htop]at d4;have f4:=hM1.jH.free hh;have h3:=hM1.h2;obtain⟨D5,hgc⟩:=hM1.sepc
 have r3:∀W,aa [B.ba,B.c] w1 W->W.cell? ⟨B.n0,2,none⟩=some (.slice (some ⟨gt,0,none⟩) aj.length ct):=fun W hW=>hW.kept h3 (fun hm=>D5 (by simp at hm⊢;omega));have r4:∀W,aa [B.ba,B.c] w1 W->W.cell? ⟨gt,hh,none⟩=some (.int .i64 th.root)/\W.frozen? ⟨gt,hh,none⟩=false:=fun W hW=>⟨hW.kept d4 hgc,hW.aS d4 hgc f4⟩
 have BP:(0:Int)<=(hh:Int):=ω;have Hy:(hh:Int)<(aj.length:Int):=ω;generalize hmt:dD A' th (single x)=mt at *;clear hM1 f4 h3 D5 hgc;have q3:=r3 _ (aa.refl _ _);have q4:=(r4 _ (aa.refl _ _)).1;go_wp2
 go_region_law
  (first
   | (go_simp;go_at_call 215;(with_reducible refine(km _ β).mono ?_);rintro e w5 ⟨rfl,xK,X3,S5,wL,I1,hs5⟩;(have bW:aa [B.ba,B.c] w1 w5:=aa.trans β xK);obtain⟨d5,f5⟩:=r4 _ bW;(have q5:=r3 _ bW)))
 all_goals
  go_wp2;go_ret;have qz:=HM.out.cF;have v1:aa (B.blk F gt) w w1:=hw1.mono (fun y hy=>by simp only[PB.blk,ρ];simp[hy])
  have v3:aa (B.blk F gt) w w5:=v1.trans (bW.mono (fun y hy=>by
   simp only[ρ,ς,or_false]at hy;simp only[PB.blk,ρ];rcases hy with rfl|rfl
   ·simp
   ·simp[qz]))
  subst hmt;exact⟨rfl,v3.setCell (Or.inl (by simp[PB.blk])) _,X3,FI.out _ S5 X3 (wL.qQ hh _) I1 hs5⟩
end
theorem qo{P:List Fr}{t:BT}{y:Nat}:y∈(ai P t).nodes↔y∈t.nodes\/y∈dJ P:=by
 rw[(aP P t).mem_iff,τ]
theorem Rt{S S' S'':TS}{x:Nat}(h:S.at S' x)(h':S'.at S'' x):S.at S'' x:=⟨h'.1.trans h.1,h'.2.1.trans h.2.1,h'.2.2.trans h.2.2⟩
theorem Dj{A:NS}{x:Nat}{k s:Int}(hB:jg A x k s=true)(hx:x<A.cs.length){l:BT}(h:eU A (.node x l .nil))(hn:(BT.node x l .nil).nodes.Nodup):eU (ay A x k s) (.node x l .nil):=by
 simp only[BT.nodes,List.append_nil,List.nodup_cons]at hn;have hle:=uu hB;rw[π]at hle;have hc:=rD hB hx;have hy:∀y,y≠x->(ay A x k s).c y=A.c y:=fun y e=>by rw[hc,if_neg e]
 have Dv:(ay A x k s).c x=⟨(A.c x).i,k,s⟩:=by rw[hc,if_pos rfl]
 refine⟨fun y m=>l9 (h.1 y m) (hy y (fun e=>hn.1 (by rw[←e];exact m))) ?_,eU.frame h.2.1 (fun y m=>hy y (fun e=>hn.1 (by rw[←e];exact m))),trivial⟩;rw[Dv];exact hle
section
variable {w:World}{B:PB}{F:List Nat}{gt ct:Nat}{A:NS}{st:Nat}{S:TS}{aj:List Int}
theorem XN(h:ic w B F gt ct A st S aj){f:Fr}{P:List Fr}{x:Nat}{l r:BT}(hT:bY S (-1) (ai (f::P) (.node x l r)).root (ai (f::P) (.node x l r)))(hn:(ai (f::P) (.node x l r)).nodes.Nodup)(hlt:∀y,y∈(ai (f::P) (.node x l r)).nodes->y<A.cs.length) :
  Calls Tryz.prog 214 #[.pointer (some ⟨B.n0,0,none⟩),.int .i64 (x:Int)] w fun e w'=>e=.returned (.tuple #[])/\ic w' B F gt ct A st (kK S f.1 f.2.1 x) aj/\aa [B.ba] w w':=by
 obtain⟨-, -, -,k1,k2,k3⟩:=Bo hT hn;have h1:=((dZ _ _).1 hT).1;have hpn:=(aP (f::P) (.node x l r)).nodup_iff.1 hn;rw[θ]at hpn;obtain⟨n1,n2,n3⟩:=hpn;simp only[BT.nodes,List.nodup_cons,τ,not_or]at n1;have hfp:f.1∈dJ (f::P):=by simp[dJ]
 have hfx:f.1≠x:=fun e=>n3 x (by simp[BT.nodes]) f.1 hfp e.symm;have hrn:∀z:Nat,S.r x=(z:Int)->z∈r.nodes:=fun z hz=>by
  have h4:S.r x=r.root:=h1.2.2.2.root;rw[h4]at hz;have h6:r≠.nil:=fun e'=>by rw[e']at hz;simp[BT.root]at hz
  have h7:=(bL h6).1;rw[hz,π]at h7;exact h7
 have hr:=nU (n:=A.cs.length) h1.2.2.2 (fun z hz=>hlt z (qo.2 (Or.inl (by simp[BT.nodes,hz]))));exact OT h f.1 x f.2.1 (hlt _ (qo.2 (Or.inr hfp))) (hlt _ (qo.2 (Or.inl (by simp[BT.nodes])))) hfx k1 k2 k3 hr (fun e=>n3 f.1 (by simp[BT.nodes,hrn _ e]) f.1 hfp rfl) (fun e=>n1.1.2 (hrn _ e))
theorem Pb(hM:ic w B F gt ct A st S aj){g x:Nat}{k s:Int}(hk:-9223372036854775808<=k/\k<=9223372036854775807/\0<=s/\s<=18446744073709551615)(hB:jg A x k s=true)
  (hg:(A.c x).i=g) (hg0:0<g) (hgt:g<aj.length) (htop:aj.getD g 0=x) (hxl:x<A.cs.length) :
  Calls Tryz.prog 207 #[.pointer (some ⟨B.n0,0,none⟩),.int .i64 (x:Int),.agg #[.int .i64 k,.int .u64 s]] w fun e w'=>e=.returned (.bool true)/\aa (B.blk F gt) w w'/\ic w' B F gt ct (ay A x k s) st S aj:=by
 have hcs:=fE A x k s;have lT:=lJ A x k s;have hin':bS (ay A x k s) (x:Int)=true:=(ah _ x).2 ⟨by rw[hcs];exact hxl,by rw[iM hB hxl,hg];omega⟩;have hi':((ay A x k s).c x).i=g:=by rw[iM hB hxl,hg]
 have u1:aa [] w (w.alloc (.cells #[.int .i64 k,.int .u64 s] 129)):=(aa.refl _ _).alloc _;have kp:=fun W (hW:aa [] (w.alloc (.cells #[.int .i64 k,.int .u64 s] 129)) W)=>iE (hM.cells.au (u1.trans hW)) x k s hk hB;have h0:=hM.h0;have uW:B.n0∉F:=hM.bG.1;have hlt:=hM.lt;have hsz:w.heap.size∉F:=fun hm=>by have:=hlt w.heap.size (by simp[PB.blk,hm]);omega
 have r0:∀W,aa F (w.alloc (.cells #[.int .i64 k,.int .u64 s] 129)) W->W.cell? ⟨B.n0,0,none⟩=some (.pointer (some ⟨B.c,0,none⟩)):=fun W hW=>hW.kept (u1.was h0) uW;have r1:∀W,aa F (w.alloc (.cells #[.int .i64 k,.int .u64 s] 129)) W->W.cell? ⟨w.heap.size,0,none⟩=some (.int .i64 k):=fun W h=>h.kept σ hsz;have r2:∀W,aa F (w.alloc (.cells #[.int .i64 k,.int .u64 s] 129)) W->W.cell? ⟨w.heap.size,1,none⟩=some (.int .u64 s):=fun W h=>h.kept σ hsz;have HM:=χ hM;have HG:=χ htop;have XZ:=hM.cells.ok.h1;have htn:aj.length=A.hs.length:=hM.jw;clear hM htop hlt h0 hg;generalize hA':ay A x k s=A' at *
 go_enter Tryz.func207,Tryz.ntmps207
 go_wp2
 go_region_held3 (aa F (w.alloc (.cells #[.int .i64 k,.int .u64 s] 129))) (exact ν)
  ((go_at_call 147;(with_reducible refine(kp _ β).mono ?_);rintro e w1 ⟨rfl,jr,hu1⟩;(have hu2:aa F (w.alloc (.cells #[.int .i64 k,.int .u64 s] 129)) w1:=ν)))
 have uF:aa F w (w.alloc (.cells #[.int .i64 k,.int .u64 s] 129)):=u1.mono σ;have hM1:=HM.out.cB (uF.trans hu2) jr (fun y hy=>Or.inl hy) hcs (by rw[lT]);have kh:=dQ hM1.cells x hin';rw[hi']at kh;have g10:=hM1.h0;have jT:=χ hM1;have Ho:=χ (uF.trans hu2);have Dv:((x:Int) != (x:Int))=false:=σ;have TB:(g:Int)<(aj.length:Int):=ω;clear r0 r1 r2 kp hu1 hu2 jr hM1 uF htn
 go_wp2_with (first
  | ((go_at_call 140;(with_reducible refine(kh).mono ?_));rintro e w2 ⟨rfl,hC2,hu2⟩;(have hM2:=jT.out.cB hu2 hC2 (fun y hy=>Or.inl hy) rfl rfl);(have g21:=hM2.h2);(have g22:=hM2.jH.cell g hgt);rw[HG.out]at g22)
  | fail)
 go_ret;exact⟨rfl,(Ho.out.trans hu2).mono (fun y hy=>by simp only[PB.blk,ρ];simp[hy]),hM2⟩
theorem Sa(hM:ic w B F gt ct A st S aj){g x:Nat}{f:Fr}{P:List Fr}{l r:BT}{k s:Int}(hk:-9223372036854775808<=k/\k<=9223372036854775807/\0<=s/\s<=18446744073709551615)(hB:jg A x k s=true)
  (hg:(A.c x).i=g) (hg0:0<g) (hgt:g<aj.length) (htop:aj.getD g 0=(ai (f::P) (.node x l r)).root) (hT:bY S (-1) (ai (f::P) (.node x l r)).root (ai (f::P) (.node x l r))) (hn:(ai (f::P) (.node x l r)).nodes.Nodup)
  (hL:Lone (ai (f::P) (.node x l r))) (hall:∀y,y∈(ai (f::P) (.node x l r)).nodes->bS A (y:Int)=true) :
  Calls Tryz.prog 207 #[.pointer (some ⟨B.n0,0,none⟩),.int .i64 (x:Int),.agg #[.int .i64 k,.int .u64 s]] w fun e w'=>e=.returned (.bool true)/\aa (B.blk F gt) w w'/\
   ∃st' S',ic w' B F gt ct (ay A x k s) st' S' (aj.set g (dD (ay A x k s) (ai (f::P) r) (.node x l .nil)).root)/\bY S' (-1) (dD (ay A x k s) (ai (f::P) r) (.node x l .nil)).root (dD (ay A x k s) (ai (f::P) r) (.node x l .nil))/\∀y,y∉(ai (f::P) (.node x l r)).nodes->S.at S' y:=by
 have hcs:=fE A x k s;have lT:=lJ A x k s;have hxl:x<A.cs.length:=by
  have:=hall x (qo.2 (Or.inl (by simp[BT.nodes])));exact((ah A x).1 this).1
 have hin':bS (ay A x k s) (x:Int)=true:=(ah _ x).2 ⟨by rw[hcs];exact hxl,by rw[iM hB hxl,hg];omega⟩;have hi':((ay A x k s).c x).i=g:=by rw[iM hB hxl,hg]
 have tJ:∀y,y∈(ai (f::P) (.node x l r)).nodes->bS (ay A x k s) (y:Int)=true:=fun y hy=>by
  have:=(ah A y).1 (hall y hy);exact(ah _ y).2 ⟨by rw[hcs];exact this.1,by rw[iM hB hxl];exact this.2⟩
 have hlt':∀y,y∈(ai (f::P) (.node x l r)).nodes->y<(ay A x k s).cs.length:=fun y hy=>((ah _ y).1 (tJ y hy)).1;obtain⟨o1,o2,o3, -⟩:=Bo hT hn;have hpm:=wo (f::P) x l r;have tC:((ai (f::P) r).nodes++(BT.node x l .nil).nodes).Nodup:=xP (hpm.nodup_iff.1 hn);have I5:∀y,y∈(ai (f::P) r).nodes++(BT.node x l .nil).nodes->y∈(ai (f::P) (.node x l r)).nodes:=fun y hy=>by
  rw[hpm.mem_iff,τ];rw[τ]at hy;exact hy.symm
 have Nh:Lone (ai (f::P) r):=qw (t:=.node x l r) σ hL;have hrt:(ai (f::P) (.node x l r)).root=(ai (f::P) r).root:=kQ _ _ _ _;have hroot:(ai (f::P) r).root≠(x:Int):=fun e=>by
  have h6:ai (f::P) r≠.nil:=fun e'=>by rw[e']at e;simp[BT.root]at e
  have h7:=(bL h6).1;rw[e,π]at h7;rw[θ]at tC;exact tC.2.2 x h7 x (by simp[BT.nodes]) rfl
 rw[hrt]at htop;have hr0:(ai (f::P) r).root=-1\/0<=(ai (f::P) r).root:=by
  have:=nU (n:=A.cs.length) o2 (fun z hz=>((ah _ _).1 (hall z (I5 z (by simp[hz])))).1);omega
 have u1:aa [] w (w.alloc (.cells #[.int .i64 k,.int .u64 s] 129)):=(aa.refl _ _).alloc _;have kp:=fun W (hW:aa [] (w.alloc (.cells #[.int .i64 k,.int .u64 s] 129)) W)=>iE (hM.cells.au (u1.trans hW)) x k s hk hB;have h0:=hM.h0;have uW:B.n0∉F:=hM.bG.1;have hlt:=hM.lt;have hsz:w.heap.size∉F:=fun hm=>by have:=hlt w.heap.size (by simp[PB.blk,hm]);omega
 have r0:∀W,aa F (w.alloc (.cells #[.int .i64 k,.int .u64 s] 129)) W->W.cell? ⟨B.n0,0,none⟩=some (.pointer (some ⟨B.c,0,none⟩)):=fun W hW=>hW.kept (u1.was h0) uW;have r1:∀W,aa F (w.alloc (.cells #[.int .i64 k,.int .u64 s] 129)) W->W.cell? ⟨w.heap.size,0,none⟩=some (.int .i64 k):=fun W h=>h.kept σ hsz;have r2:∀W,aa F (w.alloc (.cells #[.int .i64 k,.int .u64 s] 129)) W->W.cell? ⟨w.heap.size,1,none⟩=some (.int .u64 s):=fun W h=>h.kept σ hsz;have HM:=χ hM;have HG:=χ (ψ hT (ψ hn (ψ tJ hlt')));have HX:=χ (ψ tC (ψ I5 (ψ Nh (ψ o1 (ψ o2 o3)))));have HT:=χ htop;have XZ:=hM.cells.ok.h1
 have htn:aj.length=A.hs.length:=hM.jw;clear hM hT hn hall tJ hlt' hlt h0 hg tC I5 uW hsz hL Nh hrt hpm o1 o2 o3 htop;generalize hA':ay A x k s=A' at *;generalize Fu:ai (f::P) r=ta at *
 go_enter Tryz.func207,Tryz.ntmps207
 go_wp2
 go_region_held3 (aa F (w.alloc (.cells #[.int .i64 k,.int .u64 s] 129))) (exact ν)
  ((go_at_call 147;(with_reducible refine(kp _ β).mono ?_);rintro e w1 ⟨rfl,jr,hu1⟩;(have hu2:aa F (w.alloc (.cells #[.int .i64 k,.int .u64 s] 129)) w1:=ν)))
 have uF:aa F w (w.alloc (.cells #[.int .i64 k,.int .u64 s] 129)):=u1.mono σ;have hM1:=HM.out.cB (uF.trans hu2) jr (fun y hy=>Or.inl hy) hcs (by rw[lT]);have kh:=dQ hM1.cells x hin';rw[hi']at kh;have g10:=hM1.h0;have jT:=χ hM1;have Ho:=χ (uF.trans hu2);have Dv:(ta.root != (x:Int))=true:=by simpa using hroot
 have TB:(g:Int)<(aj.length:Int):=ω;clear r0 r1 r2 kp hu1 hu2 jr hM1 uF htn
 go_wp2_with (first
  | ((go_at_call 140;(with_reducible refine(kh).mono ?_));rintro e w2 ⟨rfl,hC2,hu2⟩;(have hM2:=jT.out.cB hu2 hC2 (fun y hy=>Or.inl hy) rfl rfl);(have g21:=hM2.h2);(have g22:=hM2.jH.cell g hgt);rw[HT.out]at g22;(have ko:=XN hM2 HG.out.1 HG.out.2.1 HG.out.2.2.2))
  | ((go_at_call 214;(with_reducible refine(ko).mono ?_));rintro e w3 ⟨rfl,jR,hu3⟩)
  | fail)
 have hw3:aa (B.blk F gt) w w3:=((Ho.out.trans hu2).mono (fun y hy=>by simp only[PB.blk,ρ];simp[hy])).trans (hu3.mono (fun y hy=>by simp at hy;simp[PB.blk,hy]));have km:=fun W (hW:aa [] w3 W)=>wZ (jR.au hW) ta (.node x l .nil) HX.out.2.2.2.2.1 HX.out.2.2.2.1 HX.out.2.2.1 rfl HX.out.1 (fun y hy=>HG.out.2.2.1 y (HX.out.2.1 y hy));rw[show(BT.node x l .nil).root=(x:Int)from rfl]at km;have d4:=jR.jH.cell g hgt;rw[HT.out]at d4;have f4:=jR.jH.free g;have h3:=jR.h2;obtain⟨D5,hgc⟩:=jR.sepc;have qz:=jR.cF
 have r3:∀W,aa [B.ba,B.c] w3 W->W.cell? ⟨B.n0,2,none⟩=some (.slice (some ⟨gt,0,none⟩) aj.length ct):=fun W hW=>hW.kept h3 (fun hm=>D5 (by simp at hm⊢;omega));have r4:∀W,aa [B.ba,B.c] w3 W->W.cell? ⟨gt,g,none⟩=some (.int .i64 ta.root)/\W.frozen? ⟨gt,g,none⟩=false:=fun W hW=>⟨hW.kept d4 hgc,hW.aS d4 hgc f4⟩
 have BP:(0:Int)<=(g:Int):=ω;generalize hmt:dD A' ta (.node x l .nil)=mt at *;clear jR f4 h3 D5 hgc g21 g22 hM2 ko hC2 hu2 hu3 kh g10;have q3:=r3 _ (aa.refl _ _);have q4:=(r4 _ (aa.refl _ _)).1;go_wp2
 go_region_law
  (first
   | (go_simp;go_at_call 215;(with_reducible refine(km _ β).mono ?_);rintro e w5 ⟨rfl,xK,X3,S5,wL,I1,hs5⟩;(have bW:aa [B.ba,B.c] w3 w5:=aa.trans β xK);obtain⟨d5,f5⟩:=r4 _ bW;(have q5:=r3 _ bW)))
 all_goals
  go_wp2;go_ret
  have v3:aa (B.blk F gt) w w5:=hw3.trans (bW.mono (fun y hy=>by
   simp only[ρ,ς,or_false]at hy;simp only[PB.blk,ρ];rcases hy with rfl|rfl
   ·simp
   ·simp[qz]))
  subst hmt;exact⟨rfl,v3.setCell (Or.inl (by simp[PB.blk])) _,X3,S5,wL.qQ g _,I1,fun y hy=>Rt (HX.out.2.2.2.2.2 y hy) (hs5 y (fun hm=>hy (HX.out.2.1 y hm)))⟩
end
end Go.Proofs.YtklibcncmbofpaaGreat
namespace Go.Proofs.YtklibcncmbofpaaGreat
theorem Dn(A:NS):∀ (l:List BT),(∀t,t∈l->eU A t/\Lone t)->(gQ l).Nodup->∀t,t∈bU A l->eU A t/\Lone t
 | [],_,_,t,ht=>by cases ht
 | [a],h,_,t,ht=>h t ht
 | a::b::l,h,hn,t,ht=>by
  rw[bK,bK,←List.append_assoc,θ]at hn;have ha:=h a σ;have hb:=h b σ;rcases ρ.1 (show t∈dD A a b::bU A l from ht)with e|e
  ·subst e;exact⟨pR ha.2 hb.2 ha.1 hb.1 hn.1,nL A ha.2 hb.2⟩
  ·exact Dn A l (fun u hu=>h u (by simp[hu])) hn.2.1 t e
theorem Ct(A:NS):∀ (l:List BT),(∀t,t∈l->eU A t/\Lone t)->(gQ l).Nodup->eU A (gF A l)
 | [],_,_=>trivial
 | a::l,h,hn=>by
  have ha:=h a σ;have hp:=yl A l (fun t ht=>(h t (by simp[ht])).2);have ih:=Ct A l (fun u hu=>h u (by simp[hu])) (by rw[bK,θ]at hn;exact hn.2.1);exact pR ha.2 hp.2 ha.1 ih ((hp.1.append_left a.nodes).nodup_iff.2 hn)
theorem xM{A:NS}{l:BT}(h:eU A l)(hn:l.nodes.Nodup):(gF A (bU A (bD l))).nodes.Perm l.nodes/\Lone (gF A (bU A (bD l)))/\eU A (gF A (bU A (bD l))):=by
 have hk:=Cw h;have hkn:=(jD l).nodup_iff.2 hn;have h2:=Dn A _ hk hkn;have p2:=Dc A (bD l) (fun t ht=>(hk t ht).2);have p3:=yl A (bU A (bD l)) (fun t ht=>(h2 t ht).2);exact⟨(p3.1.trans p2).trans (jD l),p3.2,Ct A _ h2 (p2.nodup_iff.2 hkn)⟩
theorem CZ{n:Nat}{l:List Nat}(hn:l.Nodup)(h:∀x,x∈l->x<n):l.length<=n:=by
 induction n generalizing l with
 | zero=>
  cases l with
  | nil=>simp
  | cons a l=>exact absurd (h a σ) ω
 | succ n ih=>
  by_cases hm:n∈l
  ·have h1:=ih (l:=l.erase n) (hn.erase n) (fun x hx=>by
    have h2:=(hn.mem_erase_iff).1 hx;have:=h x h2.2
    omega)
   rw[List.length_erase_of_mem hm]at h1;omega
  ·have:=ih hn (fun x hx=>by
    have h1:=h x hx;have h2:x≠n:=fun e=>hm (by rw[←e];exact hx)
    omega)
   omega
end Go.Proofs.YtklibcncmbofpaaGreat
