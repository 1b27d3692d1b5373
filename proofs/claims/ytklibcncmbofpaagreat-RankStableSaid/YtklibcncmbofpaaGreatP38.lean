/-
  Lemmas for RankSorts: Pa6, Pa4o, Pa4a, Pa4b, Pa4c, Pa4d. Conditions: those of each lemma.
-/
import Derived.Test.YtklibcncmbofpaaGreatP37
set_option maxHeartbeats 8000000
set_option maxRecDepth 10000
set_option linter.unusedVariables false
set_option linter.unusedSimpArgs false
namespace Go.Proofs.YtklibcncmbofpaaGreat
open Go Go.RowKit
section
variable {w:World} {B:PB} {F:List Nat} {gt ct:Nat} {A:NS} {st:Nat} {S:TS} {ah:List Int}
def II (w:World) (base:Nat) (v:Value) (xs:List Int):Prop:=w.ownsRow base 3 1 v xs.length (aH xs)
theorem II.cell {W:World} {base:Nat} {a:Option Addr} {n c:Nat} {xs:List Int} (h:W.ownsRow base 3 1 (.slice a n c) n (aH xs)) {j:Nat} {y:Int} (hj:xs[j]?=some y):∃g,a=some ⟨g,0,none⟩∧base≤g∧g<W.heap.size∧∀W',aa [] W W'→W'.cell? ⟨g,j,none⟩=some (.int .i64 y):=by
 have hl:=h.1;rw [dX] at hl;have hjl:j<xs.length:=(List.getElem?_eq_some_iff.1 hj).1;obtain ⟨g,cap,e,hb,_⟩:=bY h ω
 injection e with e1 e2 e3
 subst e1;have hlt:=h.lt g rfl;refine ⟨g,rfl,hb,hlt.2,fun W' hW=>hW.was ?_⟩
 rw [h.cellAt j ω,kS hjl,φ,hj];rfl
theorem wS (h:eZ w B F gt ct A st S ah) (x:Nat) (hin:bD A (x:Int)=true) (l:BT) (hl:bG S (x:Int) (S.l x) l) (hnd:(x::l.nodes).Nodup) (hinl:∀z,z∈l.nodes→bD A (z:Int)=true) (hsz:l.size≤65536) :
    Calls Tryz.prog 216 #[.pointer (some ⟨B.n0,0,none⟩),.int .i64 (x:Int)] w fun e w'=>e=.returned (.int .i64 (dU A (bB A (aX l))).root)∧aa (B.ba::F) w w'∧∃st' S',eZ w' B F gt ct A st' S' ah∧bG S' (-1) (dU A (bB A (aX l))).root (dU A (bB A (aX l)))∧S'.l x=-1∧S'.r x=S.r x∧S'.u x=S.u x∧∀z,z∉x::l.nodes→S.at S' z:=by
  have hx:=(af _ _).1 hin;have hA:=h.cells.ok.c1;have hlt:∀z,z∈l.nodes→z<A.cs.length:=fun z hz=>((af _ _).1 (hinl z hz)).1
  have kk:=Ir h x hin l hl hlt hsz;have hlen:(aX l).length≤65536:=by have:=Cv l;rw [BT.jA] at this;omega
  have HS:=χ (Gd.start hl hnd hinl);have hxl:x∉l.nodes:=(List.nodup_cons.1 hnd).1;have hkr:∀ (j:Nat) (k:BT),(aX l)[j]?=some k→∃y:Nat,k.root=(y:Int)∧y<A.cs.length:=fun j k hk=>by
    have h1:=BV (List.mem_of_getElem? hk);exact ⟨_,h1.2.1,hlt _ ((iw l).mem_iff.1 (List.mem_flatMap.2 ⟨k,List.mem_of_getElem? hk,h1.1⟩))⟩
  have HK:=χ (ψ hkr (ψ hxl hlen));have hbl:=h.lt;have hn0:B.n0<w.heap.size∧B.ba<w.heap.size∧∀z,z∈F→z<w.heap.size:=⟨hbl _ (by simp [PB.blk]),hbl _ (by simp [PB.blk]),fun z hz=>hbl z (by simp [PB.blk,hz])⟩
  clear hlt hl hnd hinl hkr hxl hbl;generalize hks:aX l=ks at *
  go_enter Tryz.func216,Tryz.ntmps216
  go_upto_region 2 with (first
    | ((go_at_call 217;(with_reducible refine (kk).mono ?_));rintro e w1 ⟨ao,co,rfl,ho,hM1,hu1⟩)
    | fail)
  clear h kk;have hs1:=hu1.size;have c1:=hM1.h1;have dl:=hM1.l x hx.1;have ff:=hM1.f (x*3);have hxI:(x:Int)<(A.cs.length:Int):=ω;have HO:=χ (ψ ho (ψ hM1 hu1));clear ho hM1 hu1;obtain ⟨hkr,hxl,hlen⟩:=HK.out;clear hkr hxl
  go_upto_region 3 with (fail)
  refine gB (fun W=>eZ W B F gt ct A st (S.aD x false (-1)) ah∧aa [B.ba] w1 W) ⟨(HO.out.2.1.Ey x (-1)).aj (by first|exact ⟨rfl,rfl,rfl,Nat.le_refl _,fun _ _ _=>rfl⟩|(repeat (first|assumption|exact aa.refl _ _|refine aa.drew ?_|refine aa.alloc ?_ _|refine aa.setCell ?_ ?_ _|focus (left;simp;done)|focus (right;simp;done)|focus (right;simp;omega)|(apply aa.trans;rotate_left;assumption)))),β⟩ ?_
  rintro W ⟨hMW,hu2⟩;have HW:=χ (ψ hMW hu2);clear hMW hu2 c1 dl ff;go_wp2
  go_loopw [7,24] (fun v7 v24 wr=>∃ (j:Nat),j≤ks.length∧v24=.int .i64 (j:Int)∧eZ wr B F gt ct A st (ed S x ((bK ks).take j)) ah∧aa [B.ba] w1 wr) (fun _ v24 _=>ks.length-(intOf v24).toNat)
  case atStart=>exact ⟨0,Nat.zero_le _,rfl,by rw [List.take_zero];exact HW.out.1.ext (Ie S x),HW.out.2⟩
  case round=>
    obtain ⟨j,hj,rfl,hM,hu⟩:=hrel;rename World=>wr
    by_cases hjn:j<ks.length
    · obtain ⟨t,ht⟩:∃t,ks[j]?=some t:=⟨ks[j],List.getElem?_eq_getElem hjn⟩
      obtain ⟨y,hy,hyl⟩:=HK.out.1 j t ht;have hro:=(lu ht).2;rw [hy] at hro;obtain ⟨g,rfl,hg1,hg2,hgc⟩:=II.cell HO.out.1 hro;have hgr:wr.cell? ⟨g,j,none⟩=some (.int .i64 (y:Int)):=hu.kept (hgc w1 (aa.refl _ _)) ζ;have c1:=hM.h1;have dr:=hM.r y hyl;have du:=hM.u y hyl;have ff1:=hM.f (y*3+1);have ff2:=hM.f (y*3+2);have hjI:decide ((j:Int)<(ks.length:Int))=true:=ζ;have hyI:(y:Int)<(A.cs.length:Int):=ω;have hn1:¬B.n0=B.ba:=hM.sep.1;have hn2:¬B.ba=B.n0:=fun e=>hM.sep.1 e.symm
      have HM:=χ (ψ hM (ψ hu hro));clear hM hu hro hy ht hgc;go_wp2
      go_region_law (fail)
      all_goals
        go_wp2
        go_roundw
        case rel=>
          refine ⟨j+1,ω,by go_num,?_,HM.out.2.1.trans β⟩
          exact (((HM.out.1.bJ y (-1)).oZ y (-1)).aj (by first|exact ⟨rfl,rfl,rfl,Nat.le_refl _,fun _ _ _=>rfl⟩|(repeat (first|assumption|exact aa.refl _ _|refine aa.drew ?_|refine aa.alloc ?_ _|refine aa.setCell ?_ ?_ _|focus (left;simp;done)|focus (right;simp;done)|focus (right;simp;omega)|(apply aa.trans;rotate_left;assumption))))).ext (D7 S x y j (bK ks) HM.out.2.2)
        case measure=>simp [intOf];omega
    · obtain rfl:j=ks.length:=ω
      have hjI:decide ((ks.length:Int)<(ks.length:Int))=false:=σ;have e:(bK ks).take ks.length=bK ks:=List.take_of_length_le (by rw [EJ];exact Nat.le_refl _)
      rw [e] at hM;have HM:=χ (ψ hM hu);clear hM hu e;go_wp2;refine gB (fun W=>aa [] wr W) (by first|exact ⟨rfl,rfl,rfl,Nat.le_refl _,fun _ _ _=>rfl⟩|(repeat (first|assumption|exact aa.refl _ _|refine aa.drew ?_|refine aa.alloc ?_ _|refine aa.setCell ?_ ?_ _|focus (left;simp;done)|focus (right;simp;done)|focus (right;simp;omega)|(apply aa.trans;rotate_left;assumption)))) ?_
      intro W2 hW2;have HM2:=χ (ψ (HM.out.1.aj hW2) (HM.out.2.trans (hW2.mono σ)));have hs2:=HM2.out.2.size;clear HM hW2
      go_loopw [8,9] (fun v8 v9 wr=>∃ (j m:Nat) (a2:Option Addr) (c2:Nat) (st':Nat) (S':TS),m=2*j∧j≤(bB A ks).length∧v9=.int .i64 (m:Int)∧v8=.slice a2 j c2∧wr.ownsRow W2.heap.size 3 1 (.slice a2 j c2) j (aH (bK ((bB A ks).take j)))∧eZ wr B F gt ct A st' S' ah∧Gd A (ed S x (bK ks)) S' l ((bB A ks).take j++ks.drop m)∧aa [B.ba,B.c] W2 wr) (fun _ v9 _=>ks.length+2-(intOf v9).toNat)
      case atStart=>exact ⟨0,0,none,0,st,_,rfl,Nat.zero_le _,rfl,rfl,⟨rfl,Or.inl ⟨rfl,rfl⟩⟩,HM2.out.1,by simpa using HS.out,aa.refl _ _⟩
      case round=>
        obtain ⟨j,m,a2,c2,st',S',hm,hj,rfl,rfl,ho2,hM,hF,hu⟩:=hrel;rename World=>wr
        have htl:=pI A ks;have hos:=hu.size;have hbl:∀z,z∈B.blk F gt→z<W2.heap.size:=HM2.out.1.lt
        have hgb:∀g,g∈(Value.slice a2 j c2).ownBlock.toList→W2.heap.size≤g:=fun g hg=>(ho2.lt g (Option.mem_toList.1 hg)).1
        have hba:B.ba<W2.heap.size∧B.c<W2.heap.size:=⟨hbl _ (by simp [PB.blk]),hbl _ (by simp [PB.blk,hM.cF])⟩
        have HG:=χ (ψ hbl hgb);have hw1:aa [B.ba,B.c] w1 wr:=(HM2.out.2.mono σ).trans hu
        by_cases hmn:m<ks.length
        · have hmI:decide ((m:Int)<(ks.length:Int))=true:=ζ
          have hjb:j≤65536:=ω;have hwr:IntKind.i64.wrap ((m:Int)+1)=(m:Int)+1:=IntWalk.i64_in _ ω
          by_cases hlast:m+1=ks.length
          · obtain ⟨t,l1,l2,l3,l4⟩:=Hz A (l:=ks) (j:=j) ω
            rw [←hm] at l1 l2;have hro:=(lu l2).2;obtain ⟨g,rfl,hg1,hg2,hgc⟩:=II.cell HO.out.1 hro;have hgr:wr.cell? ⟨g,m,none⟩=some (.int .i64 t.root):=hw1.kept (hgc w1 (aa.refl _ _)) (by simp;have:=hn0.2.2 _ hM.cF;omega)
            have hqI:((m:Int)+1 == (ks.length:Int))=true:=ζ;have HL:=χ (ψ hM (ψ hF (ψ hu (ψ l1 (ψ l3 (ψ l4 (ψ hm htl)))))));clear hM hF hu hw1 l1 l2 l3 l4 hro hgc hm htl hlast hbl hgb hba
            go_wp2_with (first
              | ((at_builtin;refine aC rfl _ _ 26 rfl W2.heap.size 3 (.int .i64 0) 1 8 Tryz.underlying26 cK rfl δ _ _ _ rfl (ho2) [.int .i64 t.root] rfl (by simp [Value.oneCell']) (by first|rfl|(rw [World.size_alloc];rfl)) μ ω (ω) ?_;intro v2 w2 ho3 hu3 hsep2);obtain ⟨a3,c3,rfl,hc3⟩:=aR ho3)
              | fail)
            go_roundw
            case rel=>
              obtain ⟨hM,hF,hu,l1,l3,l4,hm,htl⟩:=HL.out;refine ⟨j+1,m+2,a3,c3,st',S',ω,ω,by go_num,rfl,?_,hM.upd hu3 (fun g hg hb=>by have:=HG.out.1 g hb;have:=HG.out.2 g hg;omega),?_,hu.joined hu3 (fun g hg=>Or.inr (HG.out.2 g hg))⟩
              · rw [l3,qR,aS];exact ho3
              · rw [show m+2=2*(j+1) by omega,l4,l3,List.append_nil,←l1];exact hF
            case measure=>simp [intOf];omega
          · obtain ⟨ta,tb,r,l1,l2,l2b,l3,l4⟩:=GK A (l:=ks) (j:=j) ω
            rw [←hm] at l1 l2 l2b;have hroa:=(lu l2).2;have hrob:=(lu l2b).2;obtain ⟨g,rfl,hg1,hg2,hgc⟩:=II.cell HO.out.1 hroa;obtain ⟨g',e', -, -,hgc'⟩:=II.cell HO.out.1 hrob;cases e';have hgnc:g∉[B.ba,B.c]:=by simp;have:=hn0.2.2 _ hM.cF;omega
            have hgr:wr.cell? ⟨g,m,none⟩=some (.int .i64 ta.root):=hw1.kept (hgc w1 (aa.refl _ _)) hgnc;have hgr':wr.cell? ⟨g,m+1,none⟩=some (.int .i64 tb.root):=hw1.kept (hgc' w1 (aa.refl _ _)) hgnc;have hqI:((m:Int)+1 == (ks.length:Int))=false:=ζ;have hm1:m+1<ks.length:=ω;have hm1I:(m:Int)+1<(ks.length:Int):=ω;have hm0I:(0:Int)≤(m:Int)+1:=ω;rw [l1] at hF;obtain ⟨t1,t2,t3,t4,t5,t6⟩:=hF.fo.two;have kl:=fun W (hW:aa [] wr W)=>sH (hM.aj hW) ta tb t1 t2 t3 t4 t5 t6
            have HL:=χ (ψ hF (ψ hu (ψ l3 (ψ l4 (ψ hm htl)))));clear hM hF hu hw1 l1 l2 l2b l3 l4 hroa hrob hgc hgc' hm htl hlast hbl hgb t1 t2 t3 t4 t5 t6 hgnc;have hcb:∀k,(Value.slice a2 j c2).ownBlock=some k→k∉[B.ba,B.c]:=fun k hk=>by have:=HG.out.2 k (Option.mem_toList.2 hk);simp;omega
            have HC:=χ hcb;clear hcb
            go_upto_region 14 with (fail)
            go_region_law (first
              | (go_simp;go_at_call 215;(with_reducible refine (kl _ β).mono ?_);rintro e w3 ⟨rfl,hu3a,st3,S3,hM3,hT3,hf3⟩;(have hu3:aa [B.ba,B.c] wr w3:=aa.trans β hu3a);(have ho3:=ay ho2 hu3 HC.out);(have hos3:=hu3.size))
              | (refine jP rfl _ _ 26 rfl W2.heap.size 3 (.int .i64 0) 1 8 Tryz.underlying26 cK rfl δ (.slice a2 j c2) j (aH (bK ((bB A ks).take j))) rfl (ho3.alloc _) w3.heap.size [.int .i64 (bN A ta tb).root] rfl rfl (fun i u hi=>lK w3 [.int .i64 (bN A ta tb).root] 3 i u hi) (by simp [Value.oneCell']) μ ω ζ ?_
                 intro v2 w2 ho4 hu4a hv2;have hu4:aa (Value.slice a2 j c2).ownBlock.toList w3 w2:=aa.trans ((aa.refl _ _).alloc _) hu4a
                 obtain ⟨a3,c3,rfl,hc3⟩:=aR ho4)
              | fail)
            all_goals
              go_wp2
              go_roundw
              case rel=>
                obtain ⟨hF,hu,l3,l4,hm,htl⟩:=HL.out;refine ⟨j+1,m+2,a3,c3,st3,S3,ω,ω,by go_num,rfl,?_,hM3.upd hu4 (fun g hg hb=>by have:=HG.out.1 g hb;have:=HG.out.2 g hg;omega),?_,(hu.trans hu3).joined hu4 (fun g hg=>Or.inr (HG.out.2 g hg))⟩
                · rw [l4,qR,aS];exact ho4
                · rw [show m+2=2*(j+1) by omega,←l3,l4,List.append_assoc];exact hF.link hT3 hf3
              case measure=>simp [intOf];omega
        · have hmI:decide ((m:Int)<(ks.length:Int))=false:=ζ
          have hjl:j=(bB A ks).length:=ω;have hdr:ks.drop m=[]:=List.drop_eq_nil_of_le ω;rw [K7 A ω] at ho2 hF;rw [hdr,List.append_nil] at hF;have htn:(bB A ks).length≤65536:=ω;generalize htw:bB A ks=tw at *
          subst hjl;have hF2:=hF.nil;have HL:=χ (ψ hM (ψ hF2 (ψ hw1 htw)));have HO2:=χ ho2;clear hM hF hu hw1 hF2 ho2 hdr hm hj htl hbl hgb htw;go_wp2;refine gB (fun W=>aa [] wr W) (by first|exact ⟨rfl,rfl,rfl,Nat.le_refl _,fun _ _ _=>rfl⟩|(repeat (first|assumption|exact aa.refl _ _|refine aa.drew ?_|refine aa.alloc ?_ _|refine aa.setCell ?_ ?_ _|focus (left;simp;done)|focus (right;simp;done)|focus (right;simp;omega)|(apply aa.trans;rotate_left;assumption)))) ?_
          intro W3 hW3;have HW3:=χ hW3;clear hW3
          go_loopw [10,11] (fun v10 v11 wr3=>∃ (i st3:Nat) (S3:TS),i≤tw.length∧v11=.int .i64 ((i:Int)-1)∧v10=.int .i64 (dU A (tw.drop i)).root∧eZ wr3 B F gt ct A st3 S3 ah∧Gd A (ed S x (bK ks)) S3 l (tw.take i++[dU A (tw.drop i)])∧aa [B.ba,B.c] W3 wr3) (fun _ v11 _=>((intOf v11)+1).toNat)
          case atStart=>
            have e1:tw.drop tw.length=[]:=List.drop_length;have e2:tw.take tw.length=tw:=List.take_length;refine ⟨tw.length,st',S',Nat.le_refl _,by go_num,by rw [e1];rfl,HL.out.1.aj HW3.out,?_,aa.refl _ _⟩
            rw [e1,e2];exact HL.out.2.1
          case round=>
            obtain ⟨i,st3,S3,hi,hz,rfl,hM,hF,hu⟩:=hrel;rename World=>wr3
            cases i with
            | zero=>
              have hz2:((0:Nat):Int)-1=-1:=rfl;rw [hz2] at hz;subst hz;rw [List.drop_zero,List.take_zero,List.nil_append] at hF;simp only [List.drop_zero];have HR:=χ (ψ hM (ψ hF hu));clear hM hF hu;go_wp2;go_ret;obtain ⟨hM,hF,hu⟩:=HR.out;have htw:=HL.out.2.2.2;subst htw;have hc:=hM.cF;have v1:aa [B.ba,B.c] w1 wr3:=(HL.out.2.2.1.trans (HW3.out.mono σ)).trans hu;exact ⟨rfl,(HO.out.2.2.mono (by simp +contextual)).trans (v1.mono (by simp [hc])),st3,S3,hM,(show Gd A (ed S x (bK (aX l))) _ l [dU A (bB A ks)] by rw [hks];exact hF).done HK.out.2.1⟩
            | succ i0=>
              have hz2:((i0+1:Nat):Int)-1=(i0:Int):=ω;rw [hz2] at hz;subst hz;have hil:i0<tw.length:=ω;obtain ⟨q1,q2⟩:=Gr A hil;have hro:=(lu (List.getElem?_eq_getElem hil)).2;obtain ⟨g,rfl,hg1,hg2,hgc⟩:=II.cell HO2.out hro;have hgr:wr3.cell? ⟨g,i0,none⟩=some (.int .i64 (tw[i0]).root):=hu.kept (hgc W3 HW3.out) ζ;rw [q1,List.append_assoc] at hF;obtain ⟨t1,t2,t3,t4,t5,t6⟩:=hF.fo.two;have kl:=sH hM tw[i0] (dU A (tw.drop (i0+1))) t1 t2 t3 t4 t5 t6;rw [←q2] at kl;have HR:=χ (ψ hF (ψ hu q2));have hiI:decide ((i0:Int)≥0)=true:=σ;clear hM hF hu hgc hro q1 q2 t1 t2 t3 t4 t5 t6
              generalize hta:tw[i0]=ta at *
              generalize htb:dU A (tw.drop (i0+1))=tb at *
              go_wp2_with (first
                | (go_at_call 215;(with_reducible refine (kl).mono ?_);rintro e w3 ⟨rfl,hu3,st4,S4,hM4,hT4,hf4⟩)
                | fail)
              go_roundw
              case rel=>
                obtain ⟨hF,hu,q2⟩:=HR.out;refine ⟨i0,st4,S4,ω,by go_num,rfl,hM4,?_,hu.trans hu3⟩
                rw [q2] at hT4 ⊢;exact hF.link hT4 hf4
              case measure=>first|(simp [intOf];done)|(simp [intOf];omega)
end
theorem CU (S:TS) (p x:Nat) (s:Bool) (hpx:p≠x) (h:S.r x=-1):∀z,(iJ S p s x).l z=(((S.aD p s (-1)).aD x true (-1)).bA x (-1)).l z∧(iJ S p s x).r z=(((S.aD p s (-1)).aD x true (-1)).bA x (-1)).r z∧(iJ S p s x).u z=(((S.aD p s (-1)).aD x true (-1)).bA x (-1)).u z:=fun z=>by
 unfold iJ TS.aD TS.bA;rw [h];have:¬ (z:Int)=-1:=ω;cases s<;>simp [this]
theorem Cw (S:TS) (p x o:Nat) (s:Bool) (hpx:p≠x) (h:S.r x=o):∀z,(iJ S p s x).l z=((((S.aD p s o).bA o p).aD x true (-1)).bA x (-1)).l z∧(iJ S p s x).r z=((((S.aD p s o).bA o p).aD x true (-1)).bA x (-1)).r z∧(iJ S p s x).u z=((((S.aD p s o).bA o p).aD x true (-1)).bA x (-1)).u z:=fun z=>by
 unfold iJ TS.aD TS.bA;rw [h];have:((z:Int)=(o:Int))=(z=o):=propext ⟨fun h=>ω,fun h=>ω⟩
 simp only [this];cases s<;>simp
section
variable {w:World} {B:PB} {F:List Nat} {gt ct:Nat} {A:NS} {st:Nat} {S:TS} {ah:List Int}
theorem Nf (h:eZ w B F gt ct A st S ah) (p x:Nat) (hp:p<A.cs.length) (hx:x<A.cs.length) (hpx:p≠x) (hkl:S.l p=x) (hu:S.u x=p) (ho:S.r x=-1) :
  Calls Tryz.prog 214 #[.pointer (some ⟨B.n0,0,none⟩),.int .i64 (x:Int)] w fun e w'=>e=.returned (.tuple #[])∧eZ w' B F gt ct A st (iJ S p false x) ah∧aa [B.ba] w w':=by
 have hA:=h.cells.ok.c1;have c1:=h.h1;have dl:=h.l p hp;have dr:=h.r x hx;have du:=h.u x hx;rw [hu] at du;have ff:=h.f;have ff1:=ff (p*3);have ff2:=ff (p*3+1);have ff3:=ff (x*3+1);have ff4:=ff (x*3+2);have cpr:=h.r p hp;have hsep:=h.sep;have hn1:¬B.n0=B.ba:=hsep.1;have hn2:¬B.ba=B.n0:=fun e=>hsep.1 e.symm
 have hxI:(x:Int)<(A.cs.length:Int):=ω;have hpI:(p:Int)<(A.cs.length:Int):=ω;have m1:¬x*3+1=p*3:=ω;have m2:¬x*3+1=p*3+1:=ω;have m3:¬x*3+2=p*3:=ω;have m4:¬x*3+2=p*3+1:=ω;have m5:¬p*3=x*3+1:=ω;have m6:¬p*3=x*3+2:=ω;have m7:¬p*3+1=x*3+1:=ω;have m8:¬p*3+1=x*3+2:=ω;have HM:=χ h;clear h ff hsep;rw [hkl] at dl;have hq:((x:Int) == (x:Int))=true:=σ;have HE:=χ (CU S p x false hpx ho);rw [ho] at dr;have hlr:((-1:Int) != -1)=false:=σ;have HQ:=χ (show (S.aD p false (-1)).r x=-1∧S.u x=p from ⟨by unfold TS.aD;(have hxp:¬x=p:=fun e=>hpx e.symm);simpa [hxp] using ho,hu⟩)
 clear ho hu hkl;generalize S.l p=slp at *
 go_enter Tryz.func214,Tryz.ntmps214
 go_upto_region 1 with (fail)
 go_quiet (fail)
 go_upto_region 2 with (fail)
 go_cut [] (fun W=>aa [] (w.setCell ⟨B.ba,p*3,none⟩ (.int .i64 (-1))) W)
 case first=>
  go_region_law (fail)
  all_goals
   go_wp2
   go_meet
   first|exact ⟨rfl,rfl,rfl,Nat.le_refl _,fun _ _ _=>rfl⟩|(repeat (first|assumption|exact aa.refl _ _|refine aa.drew ?_|refine aa.alloc ?_ _|refine aa.setCell ?_ ?_ _|focus (left;simp;done)|focus (right;simp;done)|focus (right;simp;omega)|(apply aa.trans;rotate_left;assumption)))
 case rest=>
  have hW:=hcut;clear hcut;rename World=>W
  have hMW:=(HM.out.Ey p (-1)).aj hW;have e1:=hMW.h1;have e2:=hMW.r x hx;rw [HQ.out.1] at e2;have e3:=hMW.u x hx;rw [y9,HQ.out.2] at e3;have e6:=hMW.f (x*3+1);have e7:=hMW.f (x*3+2);have eu:aa [B.ba] w W:=aa.trans β (hW.mono σ);have HW:=χ (ψ hMW eu);clear hMW hW eu c1 dl dr du ff1 ff2 ff3 ff4 cpr;go_wp2;go_end0;refine ⟨rfl,eZ.ext (((HW.out.1.bJ x (-1)).oZ x (-1)).aj ?_) HE.out,HW.out.2.trans ?_⟩
  ·first|exact ⟨rfl,rfl,rfl,Nat.le_refl _,fun _ _ _=>rfl⟩|(repeat (first|assumption|exact aa.refl _ _|refine aa.drew ?_|refine aa.alloc ?_ _|refine aa.setCell ?_ ?_ _|focus (left;simp;done)|focus (right;simp;done)|focus (right;simp;omega)|(apply aa.trans;rotate_left;assumption)))
  ·exact β
end
section
variable {w:World} {B:PB} {F:List Nat} {gt ct:Nat} {A:NS} {st:Nat} {S:TS} {ah:List Int}
theorem Mo (h:eZ w B F gt ct A st S ah) (p x:Nat) (hp:p<A.cs.length) (hx:x<A.cs.length) (hpx:p≠x) (hkl:S.l p=x) (hu:S.u x=p) (o:Nat) (hoo:S.r x=o) (hol:o<A.cs.length) (hop:o≠p) (hox:o≠x) :
  Calls Tryz.prog 214 #[.pointer (some ⟨B.n0,0,none⟩),.int .i64 (x:Int)] w fun e w'=>e=.returned (.tuple #[])∧eZ w' B F gt ct A st (iJ S p false x) ah∧aa [B.ba] w w':=by
 have hA:=h.cells.ok.c1;have c1:=h.h1;have dl:=h.l p hp;have dr:=h.r x hx;have du:=h.u x hx;rw [hu] at du;have ff:=h.f;have ff1:=ff (p*3);have ff2:=ff (p*3+1);have ff3:=ff (x*3+1);have ff4:=ff (x*3+2);have cpr:=h.r p hp;have hsep:=h.sep;have hn1:¬B.n0=B.ba:=hsep.1;have hn2:¬B.ba=B.n0:=fun e=>hsep.1 e.symm
 have hxI:(x:Int)<(A.cs.length:Int):=ω;have hpI:(p:Int)<(A.cs.length:Int):=ω;have m1:¬x*3+1=p*3:=ω;have m2:¬x*3+1=p*3+1:=ω;have m3:¬x*3+2=p*3:=ω;have m4:¬x*3+2=p*3+1:=ω;have m5:¬p*3=x*3+1:=ω;have m6:¬p*3=x*3+2:=ω;have m7:¬p*3+1=x*3+1:=ω;have m8:¬p*3+1=x*3+2:=ω;have HM:=χ h;clear h ff hsep;rw [hkl] at dl;have hq:((x:Int) == (x:Int))=true:=σ;have HE:=χ (Cw S p x o false hpx hoo);rw [hoo] at dr;have hob:((o:Int) != -1)=true:=σ;have hoI:(o:Int)<(A.cs.length:Int):=ω;have do_:=HM.out.u o hol;have ff5:=HM.out.f (o*3+2);have k1:¬o*3+2=p*3:=ω;have k2:¬o*3+2=p*3+1:=ω;have k3:¬x*3+1=o*3+2:=ω
 have k4:¬x*3+2=o*3+2:=ω;have k5:¬o*3+2=x*3+1:=ω;have k6:¬o*3+2=x*3+2:=ω;have HQ:=χ (show (S.aD p false (o:Int)).r x=o∧S.u x=p from ⟨by unfold TS.aD;(have hxp:¬x=p:=fun e=>hpx e.symm);simpa [hxp] using hoo,hu⟩)
 clear hoo hu hkl;generalize S.l p=slp at *
 go_enter Tryz.func214,Tryz.ntmps214
 go_upto_region 1 with (fail)
 go_quiet (fail)
 go_upto_region 2 with (fail)
 go_cut [] (fun W=>aa [] (w.setCell ⟨B.ba,p*3,none⟩ (.int .i64 (o:Int))) W)
 case first=>
  go_region_law (fail)
  all_goals
   go_wp2
   go_meet
   first|exact ⟨rfl,rfl,rfl,Nat.le_refl _,fun _ _ _=>rfl⟩|(repeat (first|assumption|exact aa.refl _ _|refine aa.drew ?_|refine aa.alloc ?_ _|refine aa.setCell ?_ ?_ _|focus (left;simp;done)|focus (right;simp;done)|focus (right;simp;omega)|(apply aa.trans;rotate_left;assumption)))
 case rest=>
  have hW:=hcut;clear hcut;rename World=>W
  have hMW:=(HM.out.Ey p (o:Int)).aj hW;have e1:=hMW.h1;have e2:=hMW.r x hx;rw [HQ.out.1] at e2;have e3:=hMW.u x hx;rw [y9,HQ.out.2] at e3;have e4:=hMW.u o hol;have e5:=hMW.f (o*3+2);have e6:=hMW.f (x*3+1);have e7:=hMW.f (x*3+2);have eu:aa [B.ba] w W:=aa.trans β (hW.mono σ);have HW:=χ (ψ hMW eu);clear hMW hW eu c1 dl dr du ff1 ff2 ff3 ff4 ff5 cpr do_
  go_upto_region 5 with (fail)
  go_region_law (fail)
  all_goals
   go_wp2;go_end0;refine ⟨rfl,eZ.ext ((((HW.out.1.oZ o p).bJ x (-1)).oZ x (-1)).aj ?_) HE.out,HW.out.2.trans ?_⟩
   ·first|exact ⟨rfl,rfl,rfl,Nat.le_refl _,fun _ _ _=>rfl⟩|(repeat (first|assumption|exact aa.refl _ _|refine aa.drew ?_|refine aa.alloc ?_ _|refine aa.setCell ?_ ?_ _|focus (left;simp;done)|focus (right;simp;done)|focus (right;simp;omega)|(apply aa.trans;rotate_left;assumption)))
   ·exact β
end
section
variable {w:World} {B:PB} {F:List Nat} {gt ct:Nat} {A:NS} {st:Nat} {S:TS} {ah:List Int}
theorem MH (h:eZ w B F gt ct A st S ah) (p x:Nat) (hp:p<A.cs.length) (hx:x<A.cs.length) (hpx:p≠x) (hkr:S.r p=x) (hkl:S.l p≠x) (hu:S.u x=p) (ho:S.r x=-1) :
  Calls Tryz.prog 214 #[.pointer (some ⟨B.n0,0,none⟩),.int .i64 (x:Int)] w fun e w'=>e=.returned (.tuple #[])∧eZ w' B F gt ct A st (iJ S p true x) ah∧aa [B.ba] w w':=by
 have hA:=h.cells.ok.c1;have c1:=h.h1;have dl:=h.l p hp;have dr:=h.r x hx;have du:=h.u x hx;rw [hu] at du;have ff:=h.f;have ff1:=ff (p*3);have ff2:=ff (p*3+1);have ff3:=ff (x*3+1);have ff4:=ff (x*3+2);have cpr:=h.r p hp;have hsep:=h.sep;have hn1:¬B.n0=B.ba:=hsep.1;have hn2:¬B.ba=B.n0:=fun e=>hsep.1 e.symm
 have hxI:(x:Int)<(A.cs.length:Int):=ω;have hpI:(p:Int)<(A.cs.length:Int):=ω;have m1:¬x*3+1=p*3:=ω;have m2:¬x*3+1=p*3+1:=ω;have m3:¬x*3+2=p*3:=ω;have m4:¬x*3+2=p*3+1:=ω;have m5:¬p*3=x*3+1:=ω;have m6:¬p*3=x*3+2:=ω;have m7:¬p*3+1=x*3+1:=ω;have m8:¬p*3+1=x*3+2:=ω;have HM:=χ h;clear h ff hsep;have hq:(S.l p == (x:Int))=false:=by simpa using hkl
 have HE:=χ (CU S p x true hpx ho);rw [ho] at dr;have hlr:((-1:Int) != -1)=false:=σ;have HQ:=χ (show (S.aD p true (-1)).r x=-1∧S.u x=p from ⟨by unfold TS.aD;(have hxp:¬x=p:=fun e=>hpx e.symm);simpa [hxp] using ho,hu⟩)
 clear ho hu hkl hkr;generalize S.l p=slp at *
 go_enter Tryz.func214,Tryz.ntmps214
 go_upto_region 1 with (fail)
 go_quiet (fail)
 go_upto_region 3 with (fail)
 go_cut [] (fun W=>aa [] (w.setCell ⟨B.ba,p*3+1,none⟩ (.int .i64 (-1))) W)
 case first=>
  go_region_law (fail)
  all_goals
   go_wp2
   go_meet
   first|exact ⟨rfl,rfl,rfl,Nat.le_refl _,fun _ _ _=>rfl⟩|(repeat (first|assumption|exact aa.refl _ _|refine aa.drew ?_|refine aa.alloc ?_ _|refine aa.setCell ?_ ?_ _|focus (left;simp;done)|focus (right;simp;done)|focus (right;simp;omega)|(apply aa.trans;rotate_left;assumption)))
 case rest=>
  have hW:=hcut;clear hcut;rename World=>W
  have hMW:=(HM.out.bJ p (-1)).aj hW;have e1:=hMW.h1;have e2:=hMW.r x hx;rw [HQ.out.1] at e2;have e3:=hMW.u x hx;rw [y9,HQ.out.2] at e3;have e6:=hMW.f (x*3+1);have e7:=hMW.f (x*3+2);have eu:aa [B.ba] w W:=aa.trans β (hW.mono σ);have HW:=χ (ψ hMW eu);clear hMW hW eu c1 dl dr du ff1 ff2 ff3 ff4 cpr;go_wp2;go_end0;refine ⟨rfl,eZ.ext (((HW.out.1.bJ x (-1)).oZ x (-1)).aj ?_) HE.out,HW.out.2.trans ?_⟩
  ·first|exact ⟨rfl,rfl,rfl,Nat.le_refl _,fun _ _ _=>rfl⟩|(repeat (first|assumption|exact aa.refl _ _|refine aa.drew ?_|refine aa.alloc ?_ _|refine aa.setCell ?_ ?_ _|focus (left;simp;done)|focus (right;simp;done)|focus (right;simp;omega)|(apply aa.trans;rotate_left;assumption)))
  ·exact β
end
section
variable {w:World} {B:PB} {F:List Nat} {gt ct:Nat} {A:NS} {st:Nat} {S:TS} {ah:List Int}
theorem MU (h:eZ w B F gt ct A st S ah) (p x:Nat) (hp:p<A.cs.length) (hx:x<A.cs.length) (hpx:p≠x) (hkr:S.r p=x) (hkl:S.l p≠x) (hu:S.u x=p) (o:Nat) (hoo:S.r x=o) (hol:o<A.cs.length) (hop:o≠p) (hox:o≠x) :
  Calls Tryz.prog 214 #[.pointer (some ⟨B.n0,0,none⟩),.int .i64 (x:Int)] w fun e w'=>e=.returned (.tuple #[])∧eZ w' B F gt ct A st (iJ S p true x) ah∧aa [B.ba] w w':=by
 have hA:=h.cells.ok.c1;have c1:=h.h1;have dl:=h.l p hp;have dr:=h.r x hx;have du:=h.u x hx;rw [hu] at du;have ff:=h.f;have ff1:=ff (p*3);have ff2:=ff (p*3+1);have ff3:=ff (x*3+1);have ff4:=ff (x*3+2);have cpr:=h.r p hp;have hsep:=h.sep;have hn1:¬B.n0=B.ba:=hsep.1;have hn2:¬B.ba=B.n0:=fun e=>hsep.1 e.symm
 have hxI:(x:Int)<(A.cs.length:Int):=ω;have hpI:(p:Int)<(A.cs.length:Int):=ω;have m1:¬x*3+1=p*3:=ω;have m2:¬x*3+1=p*3+1:=ω;have m3:¬x*3+2=p*3:=ω;have m4:¬x*3+2=p*3+1:=ω;have m5:¬p*3=x*3+1:=ω;have m6:¬p*3=x*3+2:=ω;have m7:¬p*3+1=x*3+1:=ω;have m8:¬p*3+1=x*3+2:=ω;have HM:=χ h;clear h ff hsep;have hq:(S.l p == (x:Int))=false:=by simpa using hkl
 have HE:=χ (Cw S p x o true hpx hoo);rw [hoo] at dr;have hob:((o:Int) != -1)=true:=σ;have hoI:(o:Int)<(A.cs.length:Int):=ω;have do_:=HM.out.u o hol;have ff5:=HM.out.f (o*3+2);have k1:¬o*3+2=p*3:=ω;have k2:¬o*3+2=p*3+1:=ω;have k3:¬x*3+1=o*3+2:=ω;have k4:¬x*3+2=o*3+2:=ω;have k5:¬o*3+2=x*3+1:=ω;have k6:¬o*3+2=x*3+2:=ω;have HQ:=χ (show (S.aD p true (o:Int)).r x=o∧S.u x=p from ⟨by unfold TS.aD;(have hxp:¬x=p:=fun e=>hpx e.symm);simpa [hxp] using hoo,hu⟩)
 clear hoo hu hkl hkr;generalize S.l p=slp at *
 go_enter Tryz.func214,Tryz.ntmps214
 go_upto_region 1 with (fail)
 go_quiet (fail)
 go_upto_region 3 with (fail)
 go_cut [] (fun W=>aa [] (w.setCell ⟨B.ba,p*3+1,none⟩ (.int .i64 (o:Int))) W)
 case first=>
  go_region_law (fail)
  all_goals
   go_wp2
   go_meet
   first|exact ⟨rfl,rfl,rfl,Nat.le_refl _,fun _ _ _=>rfl⟩|(repeat (first|assumption|exact aa.refl _ _|refine aa.drew ?_|refine aa.alloc ?_ _|refine aa.setCell ?_ ?_ _|focus (left;simp;done)|focus (right;simp;done)|focus (right;simp;omega)|(apply aa.trans;rotate_left;assumption)))
 case rest=>
  have hW:=hcut;clear hcut;rename World=>W
  have hMW:=(HM.out.bJ p (o:Int)).aj hW;have e1:=hMW.h1;have e2:=hMW.r x hx;rw [HQ.out.1] at e2;have e3:=hMW.u x hx;rw [y9,HQ.out.2] at e3;have e4:=hMW.u o hol;have e5:=hMW.f (o*3+2);have e6:=hMW.f (x*3+1);have e7:=hMW.f (x*3+2);have eu:aa [B.ba] w W:=aa.trans β (hW.mono σ);have HW:=χ (ψ hMW eu);clear hMW hW eu c1 dl dr du ff1 ff2 ff3 ff4 ff5 cpr do_
  go_upto_region 5 with (fail)
  go_region_law (fail)
  all_goals
   go_wp2;go_end0;refine ⟨rfl,eZ.ext ((((HW.out.1.oZ o p).bJ x (-1)).oZ x (-1)).aj ?_) HE.out,HW.out.2.trans ?_⟩
   ·first|exact ⟨rfl,rfl,rfl,Nat.le_refl _,fun _ _ _=>rfl⟩|(repeat (first|assumption|exact aa.refl _ _|refine aa.drew ?_|refine aa.alloc ?_ _|refine aa.setCell ?_ ?_ _|focus (left;simp;done)|focus (right;simp;done)|focus (right;simp;omega)|(apply aa.trans;rotate_left;assumption)))
   ·exact β
end
end Go.Proofs.YtklibcncmbofpaaGreat
