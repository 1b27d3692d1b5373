/-
  Lemmas for RankSorts: Kar10. Conditions: those of each lemma.
-/
import Derived.Deep.DeepCutAuto
import Derived.Outline
import Derived.Test.YtklibcncmbofpaaGreatP27
set_option maxHeartbeats 8000000
set_option maxRecDepth 10000
set_option linter.unusedVariables false
set_option linter.unusedSimpArgs false
namespace Go.Proofs.YtklibcncmbofpaaGreat
open Go Go.RowKit
set_option maxRecDepth 100000 in
theorem IK (Od:qO) (bt ba lo n:Nat) (S0:CS) (va vb:Value) (A B:List Int) (q0:Nat) (w:World) (h:aM w bt ba lo n S0) (hO:Od.at_ w q0) (hap:Apart Od bt ba n S0) (hbt:bt<w.heap.size)
    (ha:fI w (Od.wr++ba::S0.blk n) va A) (hb:fI w (Od.wr++ba::S0.blk n) vb B) (hrA:Ha n S0 A=true) (hrB:Ha n S0 B=true) (hno:A.any (fun x=>decide (x∈B))=false)
    (hok:∀k,Fw Od.dom Od.lt n k (eU Od.lt n k ⟨S0.f,A,B,[],[],q0⟩)) :
    Calls Tryz.prog 194 #[.pointer (some ⟨bt,0,none⟩),.iface Od.ty (.pointer (some ⟨Od.p,0,none⟩)),va,vb] w fun e w'=>
      ∃k vn va' vb' vo,e=.returned (.tuple #[vo,.bool true])∧KM Od w w' bt ba lo n (Od.wr++ba::S0.blk n) va' vb' vn vo (eU Od.lt n k ⟨S0.f,A,B,[],[],q0⟩)∧(eU Od.lt n k ⟨S0.f,A,B,[],[],q0⟩).A=[]∧(eU Od.lt n k ⟨S0.f,A,B,[],[],q0⟩).B=[]∧(eU Od.lt n k ⟨S0.f,A,B,[],[],q0⟩).N=[]:=by
  have hle:=h.le;have hu1:∀v,aa [] w (w.alloc (.cells #[v] 26)):=fun v=>(aa.refl _ _).alloc _
  have hbx:=dm w [vb] 26;have kA:=Lm bt ba lo n S0 va A (w.alloc (.cells #[vb] 26)) (h.aj (hu1 vb)) _ (ha.upd (hu1 vb) σ);have kB:=Lm bt ba lo n S0 vb B (w.alloc (.cells #[vb] 26)) (h.aj (hu1 vb)) _ (hb.upd (hu1 vb) σ);have kF:=yz (w.alloc (.cells #[vb] 26)) _ w.heap.size va vb A B (ha.upd (hu1 vb) σ) (hb.upd (hu1 vb) σ) (hbx.ext (fun j hj=>by simp at hj;subst hj;rfl))
  rw [hrA] at kA;rw [hrB] at kB;rw [hno] at kF;have hold:∀g,g∈Od.wr++ba::S0.blk n→g<w.heap.size:=fun g hg=>by
    rcases List.mem_append.1 hg with hg|hg
    · exact Od.low hO _ (Od.sub _ hg)
    · rcases List.mem_cons.1 hg with rfl|hg
      · exact h.row.lt
      · exact (h.lD hg).2
  have hM:KM Od w (w.alloc (.cells #[vb] 26)) bt ba lo n (Od.wr++ba::S0.blk n) va vb (.slice none 0 0) (.slice none 0 0) (eU Od.lt n 0 ⟨S0.f,A,B,[],[],q0⟩):=
    ⟨⟨S0,rfl,h.aj (hu1 vb),hap,(fun g hg=>Or.inl (by simp [hg])),(fun g hg=>by cases hg),(fun g hg=>by cases hg)⟩,Od.upd hO (hu1 vb) σ,ha,hb,hbx.ext (fun j hj=>by simp at hj;subst hj;rfl),aQ.nil _ _,aQ.nil _ _,(fun g hg=>by cases hg),(aa.refl _ _).alloc _,hold,⟨fun x hx=>List.mem_append.2 (Or.inl hx),σ⟩,hbt,fun x hx=>Od.low hO x hx⟩
  have HOK:=χ hok;have HM0:=χ hM;have sa:=ha.shape;have sb:=hb.shape;obtain ⟨a1,c1,rfl,hc1⟩:=sa;obtain ⟨b1,d1,rfl,hd1⟩:=sb;clear hok hM ha hb hbx h hO hap hrA hrB hno hold;generalize hF0:Od.wr++ba::S0.blk n=F0 at *
  clear hF0;generalize hC0:(⟨S0.f,A,B,[],[],q0⟩:CC)=C0 at *
  clear hC0
  go_enter Tryz.func194,Tryz.ntmps194
  go_wp2_with (first
    | (go_at_call 200;(with_reducible refine (kA).mono ?_);rintro e w9 ⟨rfl,hw9⟩;rw [hw9];clear hw9 w9)
    | (go_at_call 200;(with_reducible refine (kB).mono ?_);rintro e w9 ⟨rfl,hw9⟩;rw [hw9];clear hw9 w9)
    | (go_at_call 201;(with_reducible refine (kF).mono ?_);rintro e w9 ⟨rfl,hw9⟩;rw [hw9];clear hw9 w9))
  clear kA kB kF
  go_loopw [2,10,11,12] (fun s2 s10 s11 s12 wr=>∃ (k:Nat) (vb:Value),s12=.int .i64 (k:Int)∧k≤n+1∧KM Od w wr bt ba lo n F0 s2 vb s11 s10 (eU Od.lt n k C0)) (fun _ _ _ s12 _=>n+2-(intOf s12).toNat)
  case atStart=>exact ⟨0,_,rfl,ω,HM0.out⟩
  case round=>
    obtain ⟨k,vb,rfl,hk,hM⟩:=hrel;have hok:=HOK.out k;generalize hC:eU Od.lt n k C0=C at *
    have HC:=χ hC;clear hC;obtain ⟨F,A,B,N,O,q⟩:=C;obtain ⟨a2,c2,rfl,hc2⟩:=hM.a.shape;obtain ⟨b2,d2,rfl,hd2⟩:=hM.b.shape;obtain ⟨n2,e2,rfl,hn2,he2,_⟩:=hM.now.shape;have hbx:=hM.box.cell 0 ω;have hsm:=hok.small;have hfw:=hok.few;simp only at hsm hfw
    by_cases hemp:A=[]∧B=[]∧N=[]
    · obtain ⟨rfl,rfl,rfl⟩:=hemp
      obtain ⟨o2,f2,rfl,_⟩:=hM.out.shape;have HM:=χ hM;clear hM hok;go_wp2;go_ret2;exact ⟨k,_,_,_,_,rfl,by rw [HC.out];exact HM.out,by rw [HC.out],by rw [HC.out],by rw [HC.out]⟩
    · have hpos:0<A.length+B.length+N.length:=by
        rcases A with _|⟨x,t⟩
        · rcases B with _|⟨x,t⟩
          · rcases N with _|⟨x,t⟩
            · exact absurd ⟨rfl,rfl,rfl⟩ hemp
            · simp
          · simp;omega
        · simp;omega
      have hkn:k≤n:=hok.ends (by
        rcases A with _|⟨x,t⟩
        · rcases B with _|⟨x,t⟩
          · rcases N with _|⟨x,t⟩
            · exact absurd ⟨rfl,rfl,rfl⟩ hemp
            · exact Or.inr (Or.inr σ)
          · exact Or.inr (Or.inl σ)
        · exact Or.inl σ)
      have HOKK:=χ hok;have HM:=χ hM;clear hemp hok hM
      go_upto_region 7 with (fail)
      go_cut [50] (fun s50 wx=>s50=.bool (tA n k A F)∧KM Od w wx bt ba lo n F0 (.slice a2 A.length c2) (.slice b2 B.length d2) (.slice n2 N.length e2) u10 ⟨F,A,B,N,O,q⟩)
      case first=>
        rcases A with _|⟨x,t⟩
        · go_wp2_with fail
          go_meet
          exact ⟨rfl,HM.out⟩
        · obtain ⟨ga,oa,rfl,hgl,hgF,hc⟩:=HM.out.a.head
          have hc1:=HM.out.far hgl hgF hc (aa.refl [] _) σ;have kD:=HM.out.deg x;have htA:tA n k (x::t) F=(bM n F x == (k:Int)):=rfl;have HT:=χ htA;simp only at kD;clear htA hc;generalize bM n F x=d at *
          go_wp2_with ((go_at_call 204;(with_reducible refine (kD).mono ?_);rintro e w9 ⟨rfl,hw9⟩;rw [hw9];clear hw9 w9))
          go_meet
          exact ⟨by rw [HT.out],HM.out⟩
      case rest=>
        obtain ⟨rfl,hM1⟩:=hcut;have HM1:=χ hM1;clear hM1 HM hbx
        go_upto_if 50 with (fail)
        go_cut [2,11] (fun s2 s11 wx=>∃vb,KM Od w wx bt ba lo n F0 s2 vb s11 u10 (takeA n k ⟨F,A,B,N,O,q⟩))
        case first=>
          cases htA:tA n k A F with
          | false=>
            go_wp2_with fail
            go_meet
            have e:takeA n k ⟨F,A,B,N,O,q⟩=⟨F,A,B,N,O,q⟩:=by
              rcases A with _|⟨x,t⟩
              · rfl
              · unfold takeA;simp only;rw [if_neg (by simpa [tA] using htA)]
            rw [e];exact ⟨_,HM1.out⟩
          | true=>
            rcases A with _|⟨x,t⟩
            · cases htA
            · have e:takeA n k ⟨F,x::t,B,N,O,q⟩=⟨F,t,B,N++[x],O,q⟩:=by
                unfold takeA;simp only;rw [if_pos (by simpa [tA] using htA)]
              obtain ⟨ga,oa,rfl,hgl,hgF,hc⟩:=HM1.out.a.head;have hown:∀g,g∈(Value.slice n2 N.length e2).ownBlock.toList→w.heap.size≤g:=fun g hg=>by have:=(HM1.out.now.lt g (by simpa using hg)).1;omega
              have r1:∀W,aa (Value.slice n2 N.length e2).ownBlock.toList wc W→W.cell? ⟨ga,oa,none⟩=some (.int .i64 x):=fun W hW=>HM1.out.far hgl hgF hc hW hown
              have s0:aa (Value.slice n2 N.length e2).ownBlock.toList wc wc.drew:=(aa.refl _ _).drew;have hsl:=fun W=>sI W (some ⟨ga,oa,none⟩) (t.length+1) c2 ω (by simp at hsm;omega)
              have hta:=(show fI w F0 (.slice (some ⟨ga,oa,none⟩) (t.length+1) c2) (x::t) from HM1.out.a).tail
              obtain ⟨a3,hta3⟩:=nW (some ⟨ga,oa,none⟩) (t.length+1) c2;rw [hta3] at hsl hta;simp only [Nat.add_sub_cancel] at hsl hta;have HTA:=χ hta;have hno:=HM1.out.now;have E:=χ e;clear hta e htA hta3 hc
              go_wp2_with fail
              go_region_held3 (fun W=>aa (Value.slice n2 N.length e2).ownBlock.toList wc W)
                (first|assumption|exact (aa.refl _ _).drew|(have hS:=(by assumption:aa _ _ _);exact hS.alloc _))
                (first
                  | (have hS:=s0.alloc (.cells #[.int .i64 x] 3)
                     refine ou rfl _ _ 26 rfl Tryz.underlying26 (w.heap.size+1) (.slice n2 N.length e2) N rfl (hno.upd ((aa.refl [] _).drew.alloc (.cells #[.int .i64 x] 3)) σ) wc.heap.size x rfl (lK wc [.int .i64 x] 3 0 _ rfl) ω (by have:=HM1.out.upd.size;have:=HM1.out.box.lt;simp;omega) ?_
                     intro v2 w2 ho2 hu2 hv2
                     have hS2:aa (Value.slice n2 N.length e2).ownBlock.toList wc w2:=hS.trans hu2))
              go_wp2_with fail
              go_meet
              rw [E.out];exact ⟨_,(HM1.out.Lv hS2 ho2 (fun g hg=>by rcases hv2 g hg with h|h;exact Or.inl h;exact Or.inr (by simp at h;omega))).aTo HTA.out⟩
        case rest=>
          have hT1:=tQ n k ⟨F,A,B,N,O,q⟩;generalize hC1:takeA n k ⟨F,A,B,N,O,q⟩=C1 at *
          have HC1:=χ hC1;clear hC1 HM1;obtain ⟨F1,A1,B1,N1,O1,q1⟩:=C1;have hs1:A1.length+B1.length+N1.length+O1.length≤100001∧N1.length≤2:=by
            obtain ⟨h1,h2⟩:=hT1;unfold tot at h1;simp only at h1 h2;omega
          obtain ⟨hs1,hf1⟩:=hs1;obtain ⟨vb1,hcut⟩:=hcut;obtain ⟨a5,c5,rfl,hc5⟩:=hcut.a.shape;obtain ⟨b5,d5,rfl,hd5⟩:=hcut.b.shape;obtain ⟨n5,e5,rfl,hn5,he5,_⟩:=hcut.now.shape;simp only at hn5;have hbx:=hcut.box.cell 0 ω;have HM1:=χ hcut;clear hcut hT1 hsm hfw hpos
          go_upto_region 9 with (fail)
          go_cut [70] (fun s70 wx=>s70=.bool (tA n k B1 F1)∧KM Od w wx bt ba lo n F0 (.slice a5 A1.length c5) (.slice b5 B1.length d5) (.slice n5 N1.length e5) u10 ⟨F1,A1,B1,N1,O1,q1⟩)
          case first=>
            rcases B1 with _|⟨x,t⟩
            · go_wp2_with fail
              go_meet
              exact ⟨rfl,HM1.out⟩
            · obtain ⟨ga,oa,rfl,hgl,hgF,hc⟩:=HM1.out.b.head
              have hc1:=HM1.out.far hgl hgF hc (aa.refl [] _) σ;have kD:=HM1.out.deg x;have htA:tA n k (x::t) F1=(bM n F1 x == (k:Int)):=rfl;have HT:=χ htA;simp only at kD;clear htA hc;generalize bM n F1 x=d at *
              go_wp2_with ((go_at_call 204;(with_reducible refine (kD).mono ?_);rintro e w9 ⟨rfl,hw9⟩;rw [hw9];clear hw9 w9))
              go_meet
              exact ⟨by rw [HT.out],HM1.out⟩
          case rest=>
            obtain ⟨rfl,hM2⟩:=hcut;have hbx:=hM2.box.cell 0 ω;have hbf:=hM2.box.free 0;have HM2:=χ hM2;clear hM2 HM1
            go_upto_if 70 with (fail)
            go_cut [11] (fun s11 wx=>∃vb,KM Od w wx bt ba lo n F0 (.slice a5 A1.length c5) vb s11 u10 (takeB n k ⟨F1,A1,B1,N1,O1,q1⟩))
            case first=>
              cases htA:tA n k B1 F1 with
              | false=>
                go_wp2_with fail
                go_meet
                have e:takeB n k ⟨F1,A1,B1,N1,O1,q1⟩=⟨F1,A1,B1,N1,O1,q1⟩:=by
                  rcases B1 with _|⟨x,t⟩
                  · rfl
                  · unfold takeB;simp only;rw [if_neg (by simpa [tA] using htA)]
                rw [e];exact ⟨_,HM2.out⟩
              | true=>
                rcases B1 with _|⟨x,t⟩
                · cases htA
                · have e:takeB n k ⟨F1,A1,x::t,N1,O1,q1⟩=⟨F1,A1,t,N1++[x],O1,q1⟩:=by
                    unfold takeB;simp only;rw [if_pos (by simpa [tA] using htA)]
                  obtain ⟨ga,oa,rfl,hgl,hgF,hc⟩:=HM2.out.b.head;have hown:∀g,g∈(Value.slice n5 N1.length e5).ownBlock.toList→w.heap.size<g:=fun g hg=>by have:=(HM2.out.now.lt g (by simpa using hg)).1;omega
                  have r1:∀W,aa (Value.slice n5 N1.length e5).ownBlock.toList wc W→W.cell? ⟨ga,oa,none⟩=some (.int .i64 x):=fun W hW=>HM2.out.far hgl hgF hc hW (fun g hg=>by have:=hown g hg;omega)
                  have r2:∀W,aa (Value.slice n5 N1.length e5).ownBlock.toList wc W→W.cell? ⟨w.heap.size,0,none⟩=some (.slice (some ⟨ga,oa,none⟩) (x::t).length d5):=fun W hW=>by rw [hW.cell HM2.out.box.lt (fun hm=>by have:=hown _ hm;simp at this)];exact hbx
                  have r3:∀W,aa (Value.slice n5 N1.length e5).ownBlock.toList wc W→W.frozen? ⟨w.heap.size,0,none⟩=false:=fun W hW=>by rw [hW.frozen HM2.out.box.lt (fun hm=>by have:=hown _ hm;simp at this)];exact hbf
                  have s0:aa (Value.slice n5 N1.length e5).ownBlock.toList wc wc:=aa.refl _ _;have p1:=r1 _ s0;have p3:=r1 _ (s0.alloc (.cells #[.int .i64 x] 3));have p4:=r2 _ (s0.alloc (.cells #[.int .i64 x] 3));have hsl:=fun W=>sI W (some ⟨ga,oa,none⟩) (t.length+1) d5 ω (by simp at hs1;omega)
                  have hta:=(show fI w F0 (.slice (some ⟨ga,oa,none⟩) (t.length+1) d5) (x::t) from HM2.out.b).tail
                  obtain ⟨a3,hta3⟩:=nW (some ⟨ga,oa,none⟩) (t.length+1) d5;rw [hta3] at hsl hta;simp only [Nat.add_sub_cancel] at hsl hta;have HTA:=χ hta;have hno:=HM2.out.now;have E:=χ e;clear hta e htA hta3 hc
                  go_wp2_with fail
                  go_region_law
                    (first
                      | (refine ou rfl _ _ 26 rfl Tryz.underlying26 (w.heap.size+1) (.slice n5 N1.length e5) N1 rfl (hno.upd ((aa.refl [] _).drew.alloc (.cells #[.int .i64 x] 3)) σ) wc.heap.size x rfl (lK wc [.int .i64 x] 3 0 _ rfl) ω (by have:=HM2.out.upd.size;have:=HM2.out.box.lt;simp;omega) ?_
                         intro v2 w2 ho2 hu2 hv2;have hS2:aa (Value.slice n5 N1.length e5).ownBlock.toList wc w2:=(s0.drew.alloc (.cells #[.int .i64 x] 3)).trans hu2;have g1:=r1 _ hS2;have g2:=r2 _ hS2
                         have g3:=r3 _ hS2))
                  all_goals
                    go_wp2_with fail
                    go_meet
                    rw [E.out];exact ⟨_,(HM2.out.Lv hS2 ho2 (fun g hg=>by rcases hv2 g hg with h|h;exact Or.inl h;exact Or.inr (by simp at h;omega))).bTo HTA.out⟩
            case rest=>
              have hT1:=tX n k ⟨F1,A1,B1,N1,O1,q1⟩;generalize hC2:takeB n k ⟨F1,A1,B1,N1,O1,q1⟩=C2 at *
              have HC2:=χ hC2;clear hC2 HM2;obtain ⟨F2,A2,B2,N2,O2,q2⟩:=C2;have hs2:A2.length+B2.length+N2.length+O2.length≤100001∧N2.length≤3:=by
                obtain ⟨h1,h2⟩:=hT1;unfold tot at h1;simp only at h1 h2;omega
              obtain ⟨hs2,hf2⟩:=hs2;obtain ⟨vb2,hcut⟩:=hcut;obtain ⟨n6,e6,rfl,hn6,he6,_⟩:=hcut.now.shape;obtain ⟨o6,p6,rfl,ho6,hp6,_⟩:=hcut.out.shape;simp only at hn6;have HM3:=χ hcut;clear hcut hT1 hs1 hf1
              go_upto_region 11 with (fail)
              go_cut [82] (fun s82 wx=>s82=.bool (N2.length % 2 == 1)∧KM Od w wx bt ba lo n F0 (.slice a5 A1.length c5) vb2 (.slice n6 N2.length e6) (.slice o6 O2.length p6) ⟨F2,A2,B2,N2,O2,q2⟩)
              case first=>
                have key:∀m:Nat,N2.length=m→N2.length % 2=m % 2:=fun m h=>by rw [h]
                match N2,hf2 with
                | [],_=>go_wp2_with fail;go_meet;exact ⟨σ,HM3.out⟩
                | [x],_=>go_wp2_with fail;go_meet;exact ⟨σ,HM3.out⟩
                | [x,y],_=>go_wp2_with fail;go_meet;exact ⟨σ,HM3.out⟩
                | [x,y,z],_=>go_wp2_with fail;go_meet;exact ⟨σ,HM3.out⟩
                | _::_::_::_::_,hf2=>simp at hf2;try omega
              case rest=>
                obtain ⟨rfl,hM4⟩:=hcut;have HM4:=χ hM4;clear hM4 HM3
                go_upto_if 82 with (fail)
                go_cut [10,11] (fun s10 s11 wx=>∃va vb,va=.slice a5 A1.length c5∧KM Od w wx bt ba lo n F0 va vb s11 s10 (dO ⟨F2,A2,B2,N2,O2,q2⟩))
                case first=>
                  cases htB:(N2.length % 2 == 1) with
                  | false=>
                    go_wp2_with fail
                    go_meet
                    have e:dO ⟨F2,A2,B2,N2,O2,q2⟩=⟨F2,A2,B2,N2,O2,q2⟩:=by
                      match N2,hf2,htB with
                      | [],_,_=>rfl
                      | [x],_,htB=>simp at htB
                      | [x,y],_,_=>rfl
                      | [x,y,z],_,htB=>simp at htB
                      | _::_::_::_::_,hf2,_=>simp at hf2;try omega
                    rw [e];exact ⟨_,_,rfl,HM4.out⟩
                  | true=>
                    rcases N2 with _|⟨x,r⟩
                    · simp at htB
                    · have e:dO ⟨F2,A2,B2,x::r,O2,q2⟩=⟨F2,A2,B2,r,O2++[x],q2⟩:=by
                        match r,hf2,htB with
                        | [],_,_=>rfl
                        | [y],_,htB=>simp at htB
                        | [y,z],_,_=>rfl
                        | _::_::_::_,hf2,_=>simp at hf2;try omega
                      obtain ⟨n7,e7,he7,hn7,_,hcells⟩:=HM4.out.now.shape;obtain ⟨gn,on,rfl,hc0⟩:=hcells 0 x rfl;cases he7;rw [Nat.add_zero] at hc0;have hsl:=fun W=>sI W (some ⟨gn,on,none⟩) (r.length+1) e6 ω (by simp at hs2;omega)
                      have hno:=fun W (h:aQ W (w.heap.size+1) (.slice (some ⟨gn,on,none⟩) (r.length+1) e6) (x::r))=>h.tail
                      obtain ⟨a3,hta3⟩:=nW (some ⟨gn,on,none⟩) (r.length+1) e6;rw [hta3] at hsl hno;simp only [Nat.add_sub_cancel] at hsl hno;have HNO:=χ hno;have hoo:=HM4.out.out;have E:=χ e;clear hno e htB hta3 hcells
                      go_wp2_with (at_builtin;refine tL rfl _ _ 26 rfl Tryz.underlying26 (w.heap.size+1) (.slice o6 O2.length p6) O2 rfl (hoo.upd ((aa.refl [] _).alloc (.cells #[.int .i64 x] 3)) σ) wc.heap.size x rfl (lK wc [.int .i64 x] 3 0 _ rfl) ω (by have:=HM4.out.upd.size;have:=HM4.out.box.lt;simp;omega) ?_;intro v2 w2 ho2 hu2 hv2)
                      go_meet
                      have hS2:aa (Value.slice o6 O2.length p6).ownBlock.toList wc w2:=((aa.refl _ _).alloc (.cells #[.int .i64 x] 3)).trans hu2;have hm1:=HM4.out.PE hS2 ho2 (fun g hg=>by rcases hv2 g hg with h|h;exact Or.inl h;exact Or.inr (by simp at h;omega))
                      have hm2:=hm1.Lv (aa.refl _ _) (HNO.out _ hm1.now).1 (fun g hg=>by rw [(HNO.out _ hm1.now).2] at hg;exact Or.inl hg)
                      rw [E.out];exact ⟨_,_,rfl,hm2⟩
                case rest=>
                  have hT1:=G6 ⟨F2,A2,B2,N2,O2,q2⟩ hf2;have hjoin:=HOKK.out.join;rw [HC1.out,HC2.out] at hjoin;generalize hC3:dO ⟨F2,A2,B2,N2,O2,q2⟩=C3 at *
                  have HC3:=χ hC3;clear hC3 HM4;obtain ⟨F3,A3,B3,N3,O3,q3⟩:=C3;simp only at hjoin;obtain ⟨hT1,hf3⟩:=hT1;simp only at hf3;obtain ⟨va3,vb3,rfl,hcut⟩:=hcut;obtain ⟨n8,e8,rfl,hn8,he8,_⟩:=hcut.now.shape;obtain ⟨o8,p8,rfl,ho8,hp8,_⟩:=hcut.out.shape;simp only at hn8;have HM5:=χ hcut;have HJ:=χ hjoin;clear hcut hT1 hs2 hf2 hjoin
                  go_upto_region 14 with (fail)
                  go_cut [93] (fun s93 wx=>s93=.bool (N3.length == 2)∧KM Od w wx bt ba lo n F0 (.slice a5 A1.length c5) vb3 (.slice n8 N3.length e8) (.slice o8 O3.length p8) ⟨F3,A3,B3,N3,O3,q3⟩)
                  case first=>
                    match N3,hf3 with
                    | [],_=>go_wp2_with fail;go_meet;exact ⟨σ,HM5.out⟩
                    | [x],_=>go_wp2_with fail;go_meet;exact ⟨σ,HM5.out⟩
                    | [x,y],_=>go_wp2_with fail;go_meet;exact ⟨σ,HM5.out⟩
                    | _::_::_::_,hf3=>simp at hf3;try omega
                  case rest=>
                    obtain ⟨rfl,hM6⟩:=hcut;have HM6:=χ hM6;clear hM6 HM5;have hst:Co Od.lt n k ⟨F,A,B,N,O,q⟩=jY Od.lt ⟨F3,A3,B3,N3,O3,q3⟩:=by
                      unfold Co;rw [HC1.out,HC2.out,HC3.out]
                    have hru:eU Od.lt n (k+1) C0=jY Od.lt ⟨F3,A3,B3,N3,O3,q3⟩:=by rw [eU,HC.out,hst]
                    have hq3:q3≤1000000:=by
                      have h:=JZ n k ⟨F,A,B,N,O,q⟩;rw [HC1.out,HC2.out,HC3.out] at h;simp only at h;rw [h];exact HOKK.out.asked
                    have HRU:=χ hru;clear hst hru HC1 HC2 HC3
                    match N3,hf3,HJ,HM6,HRU with
                    | [],_,_,HM6,HRU=>
                      go_wp2_with fail
                      go_roundw
                      case rel=>exact ⟨k+1,_,by go_num,ω,by rw [HRU.out];exact HM6.out⟩
                      case measure=>simp [intOf];omega
                    | [x],_,_,HM6,HRU=>
                      go_wp2_with fail
                      go_roundw
                      case rel=>exact ⟨k+1,_,by go_num,ω,by rw [HRU.out];exact HM6.out⟩
                      case measure=>simp [intOf];omega
                    | [x,y],_,HJ,HM6,HRU=>
                      obtain ⟨a,b,rfl,rfl,hda,hdb,hja,hjb,hjne,hjra,hjrb,hjd,hjl1,hjl2⟩:=HJ.out x y rfl;obtain ⟨S,hSf,hFo,hAp,hS4,hS5,hS6⟩:=HM6.out.rT;obtain ⟨n9,e9,he9,hn9,_,hcells⟩:=HM6.out.now.shape;obtain ⟨gn,on,rfl,hc0⟩:=hcells 0 (a:Int) rfl;obtain ⟨gn2,on2,heq,hc1⟩:=hcells 1 (b:Int) rfl;cases heq;cases he9;rw [Nat.add_zero] at hc0;simp only at hSf;rw [←hSf] at hjra hjrb hjd hjl1 hjl2;have hgn:∀g,g∈Od.wr++ba::S.blk n→g≠gn:=fun g hg e=>by
                        subst e;have hl:=(HM6.out.now.lt g rfl).1;rcases List.mem_append.1 hg with hg|hg
                        · have:=HM6.out.old _ (HM6.out.Fg.1 _ hg);omega
                        · rcases List.mem_cons.1 hg with rfl|hg
                          · have:=HM6.out.old _ HM6.out.Fg.2;omega
                          · exact hS5 g rfl hg
                      have hgl:=(HM6.out.now.lt gn rfl).2;have r1:∀W,aa (Od.wr++ba::S.blk n) wc W→W.cell? ⟨gn,on,none⟩=some (.int .i64 (a:Int)):=fun W hW=>by rw [hW.cell hgl (fun hm=>hgn _ hm rfl)];exact hc0
                      have r2:∀W,aa (Od.wr++ba::S.blk n) wc W→W.cell? ⟨gn,on+1,none⟩=some (.int .i64 (b:Int)):=fun W hW=>by rw [hW.cell hgl (fun hm=>hgn _ hm rfl)];exact hc1
                      have kJ:=Lu Od bt ba lo n S q3 a b wc.drew (hFo.aj (aa.refl [] _).drew) (Od.upd HM6.out.O4 (aa.refl [] _).drew σ) hda hdb hq3 hja hjb hjra hjrb hjne hjd hjl1 hjl2 hAp;clear hcells
                      go_wp2_with fail
                      go_region_held3 (fun W=>aa (Od.wr++ba::S.blk n) wc W)
                        (first|assumption|exact (aa.refl _ _).drew|(have hS:=(by assumption:aa _ _ _);exact hS.alloc _))
                        (first
                          | ((go_at_call 205;(with_reducible refine (kJ).mono ?_));rintro e w2 ⟨v2,rfl,hF2,hL2,hu2,hg2⟩;have hS2:aa (Od.wr++ba::S.blk n) wc w2:=(aa.refl _ _).drew.trans hu2))
                      go_wp2_with fail
                      go_roundw
                      case rel=>
                        refine ⟨k+1,vb3,by go_num,ω,?_⟩
                        rw [HRU.out];exact HM6.out.Og hSf hFo hAp hS4 hS6 hF2 hL2 hS2 hg2
                      case measure=>simp [intOf];omega
                    | _::_::_::_,hf3,_,_,_=>simp at hf3;try omega
end Go.Proofs.YtklibcncmbofpaaGreat
