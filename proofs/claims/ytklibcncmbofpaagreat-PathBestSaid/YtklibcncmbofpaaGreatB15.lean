/-
  Lemmas for PathBest: Kar10, KarPl, KarPl2. Conditions: those of each lemma.
-/
import Derived.Deep.DeepCutAuto
import Derived.Outline
import Derived.Test.YtklibcncmbofpaaGreatB14
set_option linter.all false
set_option maxHeartbeats 8000000
set_option maxRecDepth 10000
namespace Go.Proofs.YtklibcncmbofpaaGreat
open Go Go.RowKit
set_option maxRecDepth 100000 in
theorem Pj (Od:uN) (bt ba lo n:Nat) (S0:CS) (va vb:Value) (A B:List Int) (q0:Nat) (w:World) (h:aX w bt ba lo n S0) (hO:Od.at_ w q0) (hap:Apart Od bt ba n S0) (hbt:bt<w.heap.size)
    (ha:iw w (Od.wr++ba::S0.blk n) va A) (hb:iw w (Od.wr++ba::S0.blk n) vb B) (hrA:N7 n S0 A=true) (hrB:N7 n S0 B=true) (hno:A.any (fun x=>decide (x∈B))=false)
    (hok:∀k,KW Od.dom Od.lt n k (gZ Od.lt n k ⟨S0.f,A,B,[],[],q0⟩)) :
    Calls Tryz.prog 194 #[.pointer (some ⟨bt,0,none⟩),.iface Od.ty (.pointer (some ⟨Od.p,0,none⟩)),va,vb] w fun e w'=>
      ∃k vn va' Xx vo,e=.returned (.tuple #[vo,.bool true])/\KM Od w w' bt ba lo n (Od.wr++ba::S0.blk n) va' Xx vn vo (gZ Od.lt n k ⟨S0.f,A,B,[],[],q0⟩)/\(gZ Od.lt n k ⟨S0.f,A,B,[],[],q0⟩).A=[]/\(gZ Od.lt n k ⟨S0.f,A,B,[],[],q0⟩).B=[]/\(gZ Od.lt n k ⟨S0.f,A,B,[],[],q0⟩).N=[]:=by
  have hle:=h.le;have hu1:∀v,aa [] w (w.alloc (.cells #[v] 26)):=fun v=>(aa.refl _ _).alloc _;have hbx:=eH w [vb] 26;have kA:=RN bt ba lo n S0 va A (w.alloc (.cells #[vb] 26)) (h.aA (hu1 vb)) _ (ha.upd (hu1 vb) σ);have kB:=RN bt ba lo n S0 vb B (w.alloc (.cells #[vb] 26)) (h.aA (hu1 vb)) _ (hb.upd (hu1 vb) σ);have kF:=BC (w.alloc (.cells #[vb] 26)) _ w.heap.size va vb A B (ha.upd (hu1 vb) σ) (hb.upd (hu1 vb) σ) (hbx.ext (fun j hj=>by simp at hj;subst hj;rfl));rw [hrA] at kA;rw [hrB] at kB;rw [hno] at kF;have hold:∀g,g∈Od.wr++ba::S0.blk n->g<w.heap.size:=fun g hg=>by
    rcases τ.1 hg with hg|hg
    · exact Od.low hO _ (Od.sub _ hg)
    · rcases ρ.1 hg with rfl|hg
      · exact h.row.lt
      · exact (h.nU hg).2
  have hM:KM Od w (w.alloc (.cells #[vb] 26)) bt ba lo n (Od.wr++ba::S0.blk n) va vb (.slice none 0 0) (.slice none 0 0) (gZ Od.lt n 0 ⟨S0.f,A,B,[],[],q0⟩):=
    ⟨⟨S0,rfl,h.aA (hu1 vb),hap,(fun g hg=>Or.inl (by simp [hg])),(fun g hg=>by cases hg),(fun g hg=>by cases hg)⟩,Od.upd hO (hu1 vb) σ,ha,hb,hbx.ext (fun j hj=>by simp at hj;subst hj;rfl),bq.nil _ _,bq.nil _ _,(fun g hg=>by cases hg),(aa.refl _ _).alloc _,hold,⟨fun x hx=>τ.2 (Or.inl hx),σ⟩,hbt,fun x hx=>Od.low hO x hx⟩
  have HOK:=χ hok;have YE:=χ hM;have sa:=ha.shape;have sb:=hb.shape;obtain ⟨a1,c1,rfl,hc1⟩:=sa;obtain ⟨b1,d1,rfl,hd1⟩:=sb;clear hok hM ha hb hbx h hO hap hrA hrB hno hold;generalize hF0:Od.wr++ba::S0.blk n=F0 at *;clear hF0;generalize hC0:(⟨S0.f,A,B,[],[],q0⟩:CC)=C0 at *;clear hC0
  go_enter Tryz.func194,Tryz.ntmps194
  go_wp2_with (first
    | (go_at_call 200;(with_reducible refine (kA).mono ?_);rintro e w9 ⟨rfl,aM⟩;rw [aM];clear aM w9)
    | (go_at_call 200;(with_reducible refine (kB).mono ?_);rintro e w9 ⟨rfl,aM⟩;rw [aM];clear aM w9)
    | (go_at_call 201;(with_reducible refine (kF).mono ?_);rintro e w9 ⟨rfl,aM⟩;rw [aM];clear aM w9))
  clear kA kB kF
  go_loopw [2,10,11,12] (fun s2 s10 s11 s12 wr=>∃ (k:Nat) (vb:Value),s12=.int .i64 (k:Int)/\k<=n+1/\KM Od w wr bt ba lo n F0 s2 vb s11 s10 (gZ Od.lt n k C0)) (fun _ _ _ s12 _=>n+2-(intOf s12).toNat)
  case atStart=>exact ⟨0,_,rfl,ω,YE.out⟩
  case round=>
    obtain ⟨k,vb,rfl,hk,hM⟩:=hrel;have hok:=HOK.out k;generalize hC:gZ Od.lt n k C0=C at *;have HC:=χ hC;clear hC;obtain ⟨F,A,B,N,O,q⟩:=C;obtain ⟨a2,c2,rfl,hc2⟩:=hM.a.shape;obtain ⟨b2,d2,rfl,hd2⟩:=hM.b.shape;obtain ⟨n2,e2,rfl,hn2,he2,_⟩:=hM.now.shape;have hbx:=hM.box.cell 0 ω;have hsm:=hok.small;have hfw:=hok.few;simp only at hsm hfw
    by_cases hemp:A=[]/\B=[]/\N=[]
    · obtain ⟨rfl,rfl,rfl⟩:=hemp
      obtain ⟨o2,f2,rfl,_⟩:=hM.out.shape;have HM:=χ hM;clear hM hok;go_wp2;go_ret2;exact ⟨k,_,_,_,_,rfl,by rw [HC.out];exact HM.out,by rw [HC.out],by rw [HC.out],by rw [HC.out]⟩
    · have hpos:0<A.length+B.length+N.length:=by
        rcases A with _|⟨x,t⟩
        · rcases B with _|⟨x,t⟩
          · rcases N with _|⟨x,t⟩
            · exact absurd ⟨rfl,rfl,rfl⟩ hemp
            · simp
          · simp;omega
        · simp;omega
      have hkn:k<=n:=hok.ends (by
        rcases A with _|⟨x,t⟩
        · rcases B with _|⟨x,t⟩
          · rcases N with _|⟨x,t⟩
            · exact absurd ⟨rfl,rfl,rfl⟩ hemp
            · exact Or.inr (Or.inr σ)
          · exact Or.inr (Or.inl σ)
        · exact Or.inl σ)
      have HOKK:=χ hok;have HM:=χ hM;clear hemp hok hM
      go_upto_region 7 with (fail)
      go_cut [50] (fun s50 wx=>s50=.bool (tA n k A F)/\KM Od w wx bt ba lo n F0 (.slice a2 A.length c2) (.slice b2 B.length d2) (.slice n2 N.length e2) u10 ⟨F,A,B,N,O,q⟩)
      case first=>
        rcases A with _|⟨x,t⟩
        · go_wp2_with fail
          go_meet
          exact ⟨rfl,HM.out⟩
        · obtain ⟨ga,oa,rfl,hgl,EY,hc⟩:=HM.out.a.head
          have hc1:=HM.out.far hgl EY hc (aa.refl [] _) σ;have kD:=HM.out.deg x;have JU:tA n k (x::t) F=(dM n F x == (k:Int)):=rfl;have HT:=χ JU;simp only at kD;clear JU hc;generalize dM n F x=d at *
          go_wp2_with ((go_at_call 204;(with_reducible refine (kD).mono ?_);rintro e w9 ⟨rfl,aM⟩;rw [aM];clear aM w9))
          go_meet
          exact ⟨by rw [HT.out],HM.out⟩
      case rest=>
        obtain ⟨rfl,hM1⟩:=hcut;have jZ:=χ hM1;clear hM1 HM hbx
        go_upto_if 50 with (fail)
        go_cut [2,11] (fun s2 s11 wx=>∃vb,KM Od w wx bt ba lo n F0 s2 vb s11 u10 (takeA n k ⟨F,A,B,N,O,q⟩))
        case first=>
          cases JU:tA n k A F with
          | false=>
            go_wp2_with fail
            go_meet
            have e:takeA n k ⟨F,A,B,N,O,q⟩=⟨F,A,B,N,O,q⟩:=by
              rcases A with _|⟨x,t⟩
              · rfl
              · unfold takeA;simp only;rw [if_neg (by simpa [tA] using JU)]
            rw [e];exact ⟨_,jZ.out⟩
          | true=>
            rcases A with _|⟨x,t⟩
            · cases JU
            · have e:takeA n k ⟨F,x::t,B,N,O,q⟩=⟨F,t,B,N++[x],O,q⟩:=by
                unfold takeA;simp only;rw [if_pos (by simpa [tA] using JU)]
              obtain ⟨ga,oa,rfl,hgl,EY,hc⟩:=jZ.out.a.head;have hown:∀g,g∈(Value.slice n2 N.length e2).ownBlock.toList->w.heap.size<=g:=fun g hg=>by have:=(jZ.out.now.lt g (by simpa using hg)).1;omega
              have r1:∀W,aa (Value.slice n2 N.length e2).ownBlock.toList wc W->W.cell? ⟨ga,oa,none⟩=some (.int .i64 x):=fun W hW=>jZ.out.far hgl EY hc hW hown;have s0:aa (Value.slice n2 N.length e2).ownBlock.toList wc wc.drew:=(aa.refl _ _).drew;have hsl:=fun W=>wy W (some ⟨ga,oa,none⟩) (t.length+1) c2 ω (by simp at hsm;omega);have ET:=(show iw w F0 (.slice (some ⟨ga,oa,none⟩) (t.length+1) c2) (x::t) from jZ.out.a).tail;obtain ⟨a3,zW⟩:=qV (some ⟨ga,oa,none⟩) (t.length+1) c2;rw [zW] at hsl ET;simp only [Nat.add_sub_cancel] at hsl ET;have HTA:=χ ET;have hno:=jZ.out.now;have E:=χ e
              clear ET e JU zW hc
              go_wp2_with fail
              go_region_held3 (fun W=>aa (Value.slice n2 N.length e2).ownBlock.toList wc W)
                (first|assumption|exact (aa.refl _ _).drew|(have hS:=(by assumption:aa _ _ _);exact hS.alloc _))
                (first
                  | (have hS:=s0.alloc (.cells #[.int .i64 x] 3)
                     refine rC rfl _ _ 26 rfl Tryz.underlying26 (w.heap.size+1) (.slice n2 N.length e2) N rfl (hno.upd ((aa.refl [] _).drew.alloc (.cells #[.int .i64 x] 3)) σ) wc.heap.size x rfl (mJ wc [.int .i64 x] 3 0 _ rfl) ω (by have:=jZ.out.upd.size;have:=jZ.out.box.lt;simp;omega) ?_;intro v2 w2 ho2 hu2 hv2
                     have hS2:aa (Value.slice n2 N.length e2).ownBlock.toList wc w2:=hS.trans hu2))
              go_wp2_with fail
              go_meet
              rw [E.out];exact ⟨_,(jZ.out.Tk hS2 ho2 (fun g hg=>by rcases hv2 g hg with h|h;exact Or.inl h;exact Or.inr (by simp at h;omega))).aTo HTA.out⟩
        case rest=>
          have hT1:=xy n k ⟨F,A,B,N,O,q⟩;generalize jD:takeA n k ⟨F,A,B,N,O,q⟩=C1 at *;have HC1:=χ jD;clear jD jZ;obtain ⟨F1,A1,B1,N1,O1,q1⟩:=C1;have hs1:A1.length+B1.length+N1.length+O1.length<=100001/\N1.length<=2:=by
            obtain ⟨h1,h2⟩:=hT1;unfold tot at h1;simp only at h1 h2;omega
          obtain ⟨hs1,hf1⟩:=hs1;obtain ⟨vb1,hcut⟩:=hcut;obtain ⟨a5,c5,rfl,hc5⟩:=hcut.a.shape;obtain ⟨b5,d5,rfl,hd5⟩:=hcut.b.shape;obtain ⟨n5,e5,rfl,Ov,he5,_⟩:=hcut.now.shape;simp only at Ov;have hbx:=hcut.box.cell 0 ω;have jZ:=χ hcut;clear hcut hT1 hsm hfw hpos
          go_upto_region 9 with (fail)
          go_cut [70] (fun s70 wx=>s70=.bool (tA n k B1 F1)/\KM Od w wx bt ba lo n F0 (.slice a5 A1.length c5) (.slice b5 B1.length d5) (.slice n5 N1.length e5) u10 ⟨F1,A1,B1,N1,O1,q1⟩)
          case first=>
            rcases B1 with _|⟨x,t⟩
            · go_wp2_with fail
              go_meet
              exact ⟨rfl,jZ.out⟩
            · obtain ⟨ga,oa,rfl,hgl,EY,hc⟩:=jZ.out.b.head
              have hc1:=jZ.out.far hgl EY hc (aa.refl [] _) σ;have kD:=jZ.out.deg x;have JU:tA n k (x::t) F1=(dM n F1 x == (k:Int)):=rfl;have HT:=χ JU;simp only at kD;clear JU hc;generalize dM n F1 x=d at *
              go_wp2_with ((go_at_call 204;(with_reducible refine (kD).mono ?_);rintro e w9 ⟨rfl,aM⟩;rw [aM];clear aM w9))
              go_meet
              exact ⟨by rw [HT.out],jZ.out⟩
          case rest=>
            obtain ⟨rfl,hM2⟩:=hcut;have hbx:=hM2.box.cell 0 ω;have hbf:=hM2.box.free 0;have nI:=χ hM2;clear hM2 jZ
            go_upto_if 70 with (fail)
            go_cut [11] (fun s11 wx=>∃vb,KM Od w wx bt ba lo n F0 (.slice a5 A1.length c5) vb s11 u10 (takeB n k ⟨F1,A1,B1,N1,O1,q1⟩))
            case first=>
              cases JU:tA n k B1 F1 with
              | false=>
                go_wp2_with fail
                go_meet
                have e:takeB n k ⟨F1,A1,B1,N1,O1,q1⟩=⟨F1,A1,B1,N1,O1,q1⟩:=by
                  rcases B1 with _|⟨x,t⟩
                  · rfl
                  · unfold takeB;simp only;rw [if_neg (by simpa [tA] using JU)]
                rw [e];exact ⟨_,nI.out⟩
              | true=>
                rcases B1 with _|⟨x,t⟩
                · cases JU
                · have e:takeB n k ⟨F1,A1,x::t,N1,O1,q1⟩=⟨F1,A1,t,N1++[x],O1,q1⟩:=by
                    unfold takeB;simp only;rw [if_pos (by simpa [tA] using JU)]
                  obtain ⟨ga,oa,rfl,hgl,EY,hc⟩:=nI.out.b.head;have hown:∀g,g∈(Value.slice n5 N1.length e5).ownBlock.toList->w.heap.size<g:=fun g hg=>by have:=(nI.out.now.lt g (by simpa using hg)).1;omega
                  have r1:∀W,aa (Value.slice n5 N1.length e5).ownBlock.toList wc W->W.cell? ⟨ga,oa,none⟩=some (.int .i64 x):=fun W hW=>nI.out.far hgl EY hc hW (fun g hg=>by have:=hown g hg;omega);have r2:∀W,aa (Value.slice n5 N1.length e5).ownBlock.toList wc W->W.cell? ⟨w.heap.size,0,none⟩=some (.slice (some ⟨ga,oa,none⟩) (x::t).length d5):=fun W hW=>by rw [hW.cell nI.out.box.lt (fun hm=>by have:=hown _ hm;simp at this)];exact hbx
                  have r3:∀W,aa (Value.slice n5 N1.length e5).ownBlock.toList wc W->W.frozen? ⟨w.heap.size,0,none⟩=false:=fun W hW=>by rw [hW.frozen nI.out.box.lt (fun hm=>by have:=hown _ hm;simp at this)];exact hbf
                  have s0:aa (Value.slice n5 N1.length e5).ownBlock.toList wc wc:=aa.refl _ _;have p1:=r1 _ s0;have p3:=r1 _ (s0.alloc (.cells #[.int .i64 x] 3));have p4:=r2 _ (s0.alloc (.cells #[.int .i64 x] 3));have hsl:=fun W=>wy W (some ⟨ga,oa,none⟩) (t.length+1) d5 ω (by simp at hs1;omega);have ET:=(show iw w F0 (.slice (some ⟨ga,oa,none⟩) (t.length+1) d5) (x::t) from nI.out.b).tail;obtain ⟨a3,zW⟩:=qV (some ⟨ga,oa,none⟩) (t.length+1) d5;rw [zW] at hsl ET;simp only [Nat.add_sub_cancel] at hsl ET;have HTA:=χ ET;have hno:=nI.out.now;have E:=χ e;clear ET e JU zW hc
                  go_wp2_with fail
                  go_region_law
                    (first
                      | (refine rC rfl _ _ 26 rfl Tryz.underlying26 (w.heap.size+1) (.slice n5 N1.length e5) N1 rfl (hno.upd ((aa.refl [] _).drew.alloc (.cells #[.int .i64 x] 3)) σ) wc.heap.size x rfl (mJ wc [.int .i64 x] 3 0 _ rfl) ω (by have:=nI.out.upd.size;have:=nI.out.box.lt;simp;omega) ?_
                         intro v2 w2 ho2 hu2 hv2;have hS2:aa (Value.slice n5 N1.length e5).ownBlock.toList wc w2:=(s0.drew.alloc (.cells #[.int .i64 x] 3)).trans hu2;have g1:=r1 _ hS2;have g2:=r2 _ hS2
                         have g3:=r3 _ hS2))
                  all_goals
                    go_wp2_with fail
                    go_meet
                    rw [E.out];exact ⟨_,(nI.out.Tk hS2 ho2 (fun g hg=>by rcases hv2 g hg with h|h;exact Or.inl h;exact Or.inr (by simp at h;omega))).bTo HTA.out⟩
            case rest=>
              have hT1:=x8 n k ⟨F1,A1,B1,N1,O1,q1⟩;generalize hC2:takeB n k ⟨F1,A1,B1,N1,O1,q1⟩=C2 at *;have HC2:=χ hC2;clear hC2 nI;obtain ⟨F2,A2,B2,N2,O2,q2⟩:=C2;have hs2:A2.length+B2.length+N2.length+O2.length<=100001/\N2.length<=3:=by
                obtain ⟨h1,h2⟩:=hT1;unfold tot at h1;simp only at h1 h2;omega
              obtain ⟨hs2,hf2⟩:=hs2;obtain ⟨vb2,hcut⟩:=hcut;obtain ⟨n6,e6,rfl,hn6,he6,_⟩:=hcut.now.shape;obtain ⟨o6,p6,rfl,ho6,hp6,_⟩:=hcut.out.shape;simp only at hn6;have I5:=χ hcut;clear hcut hT1 hs1 hf1
              go_upto_region 11 with (fail)
              go_cut [82] (fun s82 wx=>s82=.bool (N2.length % 2 == 1)/\KM Od w wx bt ba lo n F0 (.slice a5 A1.length c5) vb2 (.slice n6 N2.length e6) (.slice o6 O2.length p6) ⟨F2,A2,B2,N2,O2,q2⟩)
              case first=>
                have key:∀m:Nat,N2.length=m->N2.length % 2=m % 2:=fun m h=>by rw [h]
                match N2,hf2 with
                | [],_=>go_wp2_with fail;go_meet;exact ⟨σ,I5.out⟩
                | [x],_=>go_wp2_with fail;go_meet;exact ⟨σ,I5.out⟩
                | [x,y],_=>go_wp2_with fail;go_meet;exact ⟨σ,I5.out⟩
                | [x,y,z],_=>go_wp2_with fail;go_meet;exact ⟨σ,I5.out⟩
                | _::_::_::_::_,hf2=>simp at hf2;try omega
              case rest=>
                obtain ⟨rfl,sG⟩:=hcut;have Ps:=χ sG;clear sG I5
                go_upto_if 82 with (fail)
                go_cut [10,11] (fun s10 s11 wx=>∃va vb,va=.slice a5 A1.length c5/\KM Od w wx bt ba lo n F0 va vb s11 s10 (fZ ⟨F2,A2,B2,N2,O2,q2⟩))
                case first=>
                  cases Ue:(N2.length % 2 == 1) with
                  | false=>
                    go_wp2_with fail
                    go_meet
                    have e:fZ ⟨F2,A2,B2,N2,O2,q2⟩=⟨F2,A2,B2,N2,O2,q2⟩:=by
                      match N2,hf2,Ue with
                      | [],_,_=>rfl
                      | [x],_,Ue=>simp at Ue
                      | [x,y],_,_=>rfl
                      | [x,y,z],_,Ue=>simp at Ue
                      | _::_::_::_::_,hf2,_=>simp at hf2;try omega
                    rw [e];exact ⟨_,_,rfl,Ps.out⟩
                  | true=>
                    rcases N2 with _|⟨x,r⟩
                    · simp at Ue
                    · have e:fZ ⟨F2,A2,B2,x::r,O2,q2⟩=⟨F2,A2,B2,r,O2++[x],q2⟩:=by
                        match r,hf2,Ue with
                        | [],_,_=>rfl
                        | [y],_,Ue=>simp at Ue
                        | [y,z],_,_=>rfl
                        | _::_::_::_,hf2,_=>simp at hf2;try omega
                      obtain ⟨n7,e7,he7,hn7,_,hcells⟩:=Ps.out.now.shape;obtain ⟨gn,on,rfl,hc0⟩:=hcells 0 x rfl;cases he7;rw [Nat.add_zero] at hc0;have hsl:=fun W=>wy W (some ⟨gn,on,none⟩) (r.length+1) e6 ω (by simp at hs2;omega);have hno:=fun W (h:bq W (w.heap.size+1) (.slice (some ⟨gn,on,none⟩) (r.length+1) e6) (x::r))=>h.tail;obtain ⟨a3,zW⟩:=qV (some ⟨gn,on,none⟩) (r.length+1) e6;rw [zW] at hsl hno;simp only [Nat.add_sub_cancel] at hsl hno;have HNO:=χ hno;have wu:=Ps.out.out;have E:=χ e;clear hno e Ue zW hcells
                      go_wp2_with (at_builtin;refine wJ rfl _ _ 26 rfl Tryz.underlying26 (w.heap.size+1) (.slice o6 O2.length p6) O2 rfl (wu.upd ((aa.refl [] _).alloc (.cells #[.int .i64 x] 3)) σ) wc.heap.size x rfl (mJ wc [.int .i64 x] 3 0 _ rfl) ω (by have:=Ps.out.upd.size;have:=Ps.out.box.lt;simp;omega) ?_;intro v2 w2 ho2 hu2 hv2)
                      go_meet
                      have hS2:aa (Value.slice o6 O2.length p6).ownBlock.toList wc w2:=((aa.refl _ _).alloc (.cells #[.int .i64 x] 3)).trans hu2;have hm1:=Ps.out.abe hS2 ho2 (fun g hg=>by rcases hv2 g hg with h|h;exact Or.inl h;exact Or.inr (by simp at h;omega));have hm2:=hm1.Tk (aa.refl _ _) (HNO.out _ hm1.now).1 (fun g hg=>by rw [(HNO.out _ hm1.now).2] at hg;exact Or.inl hg);rw [E.out];exact ⟨_,_,rfl,hm2⟩
                case rest=>
                  have hT1:=M9 ⟨F2,A2,B2,N2,O2,q2⟩ hf2;have KV:=HOKK.out.join;rw [HC1.out,HC2.out] at KV;generalize yG:fZ ⟨F2,A2,B2,N2,O2,q2⟩=C3 at *;have HC3:=χ yG;clear yG Ps;obtain ⟨F3,A3,B3,N3,O3,q3⟩:=C3;simp only at KV;obtain ⟨hT1,hf3⟩:=hT1;simp only at hf3;obtain ⟨va3,vb3,rfl,hcut⟩:=hcut;obtain ⟨n8,e8,rfl,hn8,he8,_⟩:=hcut.now.shape;obtain ⟨o8,p8,rfl,ho8,hp8,_⟩:=hcut.out.shape;simp only at hn8;have vD:=χ hcut;have HJ:=χ KV;clear hcut hT1 hs2 hf2 KV
                  go_upto_region 14 with (fail)
                  go_cut [93] (fun s93 wx=>s93=.bool (N3.length == 2)/\KM Od w wx bt ba lo n F0 (.slice a5 A1.length c5) vb3 (.slice n8 N3.length e8) (.slice o8 O3.length p8) ⟨F3,A3,B3,N3,O3,q3⟩)
                  case first=>
                    match N3,hf3 with
                    | [],_=>go_wp2_with fail;go_meet;exact ⟨σ,vD.out⟩
                    | [x],_=>go_wp2_with fail;go_meet;exact ⟨σ,vD.out⟩
                    | [x,y],_=>go_wp2_with fail;go_meet;exact ⟨σ,vD.out⟩
                    | _::_::_::_,hf3=>simp at hf3;try omega
                  case rest=>
                    obtain ⟨rfl,uB⟩:=hcut;have wQ:=χ uB;clear uB vD;have hst:F7 Od.lt n k ⟨F,A,B,N,O,q⟩=nA Od.lt ⟨F3,A3,B3,N3,O3,q3⟩:=by
                      unfold F7;rw [HC1.out,HC2.out,HC3.out]
                    have hru:gZ Od.lt n (k+1) C0=nA Od.lt ⟨F3,A3,B3,N3,O3,q3⟩:=by rw [gZ,HC.out,hst]
                    have hq3:q3<=1000000:=by
                      have h:=PL n k ⟨F,A,B,N,O,q⟩;rw [HC1.out,HC2.out,HC3.out] at h;simp only at h;rw [h];exact HOKK.out.asked
                    have YC:=χ hru;clear hst hru HC1 HC2 HC3
                    match N3,hf3,HJ,wQ,YC with
                    | [],_,_,wQ,YC=>
                      go_wp2_with fail
                      go_roundw
                      case rel=>exact ⟨k+1,_,by go_num,ω,by rw [YC.out];exact wQ.out⟩
                      case measure=>simp [intOf];omega
                    | [x],_,_,wQ,YC=>
                      go_wp2_with fail
                      go_roundw
                      case rel=>exact ⟨k+1,_,by go_num,ω,by rw [YC.out];exact wQ.out⟩
                      case measure=>simp [intOf];omega
                    | [x,y],_,HJ,wQ,YC=>
                      obtain ⟨a,b,rfl,rfl,hda,Z7,hja,hjb,hjne,hjra,hjrb,hjd,hjl1,VW⟩:=HJ.out x y rfl;obtain ⟨S,hSf,hFo,hAp,hS4,hS5,hS6⟩:=wQ.out.vC;obtain ⟨n9,e9,he9,hn9,_,hcells⟩:=wQ.out.now.shape;obtain ⟨gn,on,rfl,hc0⟩:=hcells 0 (a:Int) rfl;obtain ⟨gn2,on2,heq,hc1⟩:=hcells 1 (b:Int) rfl;cases heq;cases he9;rw [Nat.add_zero] at hc0;simp only at hSf;rw [←hSf] at hjra hjrb hjd hjl1 VW;have hgn:∀g,g∈Od.wr++ba::S.blk n->g≠gn:=fun g hg e=>by
                        subst e;have hl:=(wQ.out.now.lt g rfl).1;rcases τ.1 hg with hg|hg
                        · have:=wQ.out.old _ (wQ.out.LM.1 _ hg);omega
                        · rcases ρ.1 hg with rfl|hg
                          · have:=wQ.out.old _ wQ.out.LM.2;omega
                          · exact hS5 g rfl hg
                      have hgl:=(wQ.out.now.lt gn rfl).2;have r1:∀W,aa (Od.wr++ba::S.blk n) wc W->W.cell? ⟨gn,on,none⟩=some (.int .i64 (a:Int)):=fun W hW=>by rw [hW.cell hgl (fun hm=>hgn _ hm rfl)];exact hc0
                      have r2:∀W,aa (Od.wr++ba::S.blk n) wc W->W.cell? ⟨gn,on+1,none⟩=some (.int .i64 (b:Int)):=fun W hW=>by rw [hW.cell hgl (fun hm=>hgn _ hm rfl)];exact hc1
                      have kJ:=Rb Od bt ba lo n S q3 a b wc.drew (hFo.aA (aa.refl [] _).drew) (Od.upd wQ.out.ZZ (aa.refl [] _).drew σ) hda Z7 hq3 hja hjb hjra hjrb hjne hjd hjl1 VW hAp;clear hcells
                      go_wp2_with fail
                      go_region_held3 (fun W=>aa (Od.wr++ba::S.blk n) wc W)
                        (first|assumption|exact (aa.refl _ _).drew|(have hS:=(by assumption:aa _ _ _);exact hS.alloc _))
                        (first
                          | ((go_at_call 205;(with_reducible refine (kJ).mono ?_));rintro e w2 ⟨v2,rfl,hF2,hL2,hu2,hg2⟩;have hS2:aa (Od.wr++ba::S.blk n) wc w2:=(aa.refl _ _).drew.trans hu2))
                      go_wp2_with fail
                      go_roundw
                      case rel=>
                        refine ⟨k+1,vb3,by go_num,ω,?_⟩;rw [YC.out];exact wQ.out.YF hSf hFo hAp hS4 hS6 hF2 hL2 hS2 hg2
                      case measure=>simp [intOf];omega
                    | _::_::_::_,hf3,_,_,_=>simp at hf3;try omega
end Go.Proofs.YtklibcncmbofpaaGreat
namespace Go.Proofs.YtklibcncmbofpaaGreat
theorem rV:∀ (n:Nat) (l:List Int),l.Nodup->(∀x,x∈l->0<=x/\x<n)->l.length<=n
 | 0,l,_,h=>by
  cases l with
  | nil=>simp
  | cons x r=>have:=h x σ;omega
 | n+1,l,hn,h=>by
  have h1:=rV n (l.filter (fun x=>x != (n:Int))) (hn.filter _) (fun x hx=>by
   simp only [List.mem_filter] at hx;have:=h x hx.1;have h2:x≠n:=by simpa using hx.2
   omega)
  have h2:l.length<=(l.filter (fun x=>x != (n:Int))).length+1:=by
   clear h1 h
   induction l with
   | nil=>simp
   | cons y r ih=>
    rw [List.nodup_cons] at hn
    by_cases hy:y=n
    ·subst hy;have e:r.filter (fun x=>x != (n:Int))=r:=by
      rw [List.filter_eq_self];intro a ha;simp;intro e;subst e;exact hn.1 ha
     rw [List.filter_cons_of_neg σ,e];simp
    ·have:=ih hn.2;rw [List.filter_cons_of_pos (by simpa using hy)];simp only [List.length_cons];omega
  omega
structure oO (n:Nat) (F:CF):Prop where
 vU:∀x,x<n->∀y,y∈F.k x->0<=y/\y<n/\F.u y.toNat=x
 nd:∀x,x<n->(F.k x).Nodup
 up:∀y,y<n->F.u y=-1\/∃p:Nat,p<n/\F.u y=p/\(y:Int)∈F.k p
 xN:∀x,x<n->∀i z,(F.k x)[i]?=some z->(F.k z.toNat).length=i
theorem QV (n:Nat):oO n CS.none.f:=⟨fun x _ y hy=>(by cases hy),fun x _=>List.nodup_nil,fun y _=>Or.inl rfl,fun x _ i z h=>by simp [CS.none,CS.f] at h⟩
theorem oO.self {n:Nat} {F:CF} (h:oO n F) {x:Nat} (hx:x<n):(x:Int)∉F.k x:=fun hm=>by
 obtain ⟨i,hi,he⟩:=List.getElem_of_mem hm;have:=h.xN x hx i x (by rw [ε hi,he]);simp at this;omega
theorem oO.len {n:Nat} {F:CF} (h:oO n F) {x:Nat} (hx:x<n):(F.k x).length+1<=n:=by
 have:=rV n ((x:Int)::F.k x) (List.nodup_cons.2 ⟨h.self hx,h.nd x hx⟩) (fun y hy=>by
  rcases ρ.1 hy with rfl|hy
  ·omega
  ·have:=h.vU x hx y hy;omega)
 simpa using this
theorem oO.link {n:Nat} {F:CF} (h:oO n F) {a b:Nat} (ha:a<n) (hb:b<n) (hne:a≠b) (ra:F.u a=-1) (rb:F.u b=-1) (hd:(F.k a).length=(F.k b).length):oO n (iH F a b):=by
 have nb:∀x,x<n->(b:Int)∉F.k x:=fun x hx hm=>by
  have:=(h.vU x hx b hm).2.2;simp at this;omega
 have na:∀x,x<n->(a:Int)∉F.k x:=fun x hx hm=>by
  have:=(h.vU x hx a hm).2.2;simp at this;omega
 refine ⟨fun x hx y hy=>?_,fun x hx=>?_,fun y hy=>?_,fun x hx i z hz=>?_⟩
 ·unfold iH at hy ⊢;simp only at hy ⊢
  split at hy
  ·rename_i e
   subst e;rcases τ.1 hy with hy|hy
   ·obtain ⟨h1,h2,h3⟩:=h.vU x hx y hy;refine ⟨h1,h2,?_⟩;rw [if_neg (fun e=>by rw [e,rb] at h3;omega)];exact h3
   ·simp at hy;subst hy;exact ⟨ω,ω,σ⟩
  ·obtain ⟨h1,h2,h3⟩:=h.vU x hx y hy;refine ⟨h1,h2,?_⟩;rw [if_neg (fun e=>by rw [e,rb] at h3;omega)];exact h3
 ·unfold iH;simp only
  split
  ·rw [θ];exact ⟨h.nd a ha,σ,fun y hy z hz e=>by simp at hz;subst hz;subst e;exact nb a ha hy⟩
  ·exact h.nd x hx
 ·unfold iH;simp only
  by_cases hyb:y=b
  ·subst hyb;exact Or.inr ⟨a,ha,σ,σ⟩
  ·rw [if_neg hyb];rcases h.up y hy with h1|⟨p,hp,h1,h2⟩
   ·exact Or.inl h1
   ·refine Or.inr ⟨p,hp,h1,?_⟩
    split
    ·rename_i e;subst e;exact τ.2 (Or.inl h2)
    ·exact h2
 ·have kz:∀z,z∈F.k x->(iH F a b).k z.toNat=F.k z.toNat:=fun z hz=>by
   unfold iH;simp only
   rw [if_neg (fun e=>by
    have:=h.vU x hx z hz
    exact na x hx (by rw [←e,show ((z.toNat:Nat):Int)=z by omega];exact hz))]
  have hz':=hz;unfold iH at hz';simp only at hz'
  split at hz'
  ·rename_i e
   subst e;rcases Nat.lt_or_ge i (F.k x).length with hi|hi
   ·rw [List.getElem?_append_left hi] at hz';rw [kz z (List.mem_of_getElem? hz')];exact h.xN x hx i z hz'
   ·have hil:i=(F.k x).length:=by
     have:=(List.getElem?_eq_some_iff.1 hz').1;simp at this;omega
    subst hil;rw [List.getElem?_append_right (Nat.le_refl _)] at hz';simp at hz';subst hz';unfold iH;simp only [π];rw [if_neg (fun e=>hne ω),hd]
  ·rw [kz z (List.mem_of_getElem? hz')];exact h.xN x hx i z hz'
def CC.L (C:CC):List Int:=C.A++(C.B++(C.N++C.O))
structure G (n ka kb kn ko:Nat) (C:CC):Prop where
 f:oO n C.F
 rt:∀x,x∈C.L->0<=x/\x<n/\C.F.u x.toNat=-1
 nd:C.L.Nodup
 a1:C.A.Pairwise (fun x y=>dM n C.F x<dM n C.F y)
 a2:∀x,x∈C.A->(ka:Int)<=dM n C.F x
 b1:C.B.Pairwise (fun x y=>dM n C.F x<dM n C.F y)
 b2:∀x,x∈C.B->(kb:Int)<=dM n C.F x
 n1:∀x,x∈C.N->dM n C.F x=kn
 o1:C.O.Pairwise (fun x y=>dM n C.F x<dM n C.F y)
 o2:∀x,x∈C.O->dM n C.F x<ko
theorem qZ (n k:Nat) (C:CC):(takeA n k C).L.Perm C.L:=by
 obtain ⟨F,A,B,N,O,q⟩:=C;unfold takeA
 split
 ·rename_i x t h
  simp only at h;subst h
  split
  ·unfold CC.L;simp only;rw [List.perm_iff_count];intro y;simp [List.count_append,List.count_cons];omega
  ·exact List.Perm.refl _
 ·exact List.Perm.refl _
theorem qM (n k:Nat) (C:CC):(takeB n k C).L.Perm C.L:=by
 obtain ⟨F,A,B,N,O,q⟩:=C;unfold takeB
 split
 ·rename_i x t h
  simp only at h;subst h
  split
  ·unfold CC.L;simp only;rw [List.perm_iff_count];intro y;simp [List.count_append,List.count_cons];omega
  ·exact List.Perm.refl _
 ·exact List.Perm.refl _
theorem qK (C:CC):(fZ C).L.Perm C.L:=by
 obtain ⟨F,A,B,N,O,q⟩:=C;unfold fZ
 split
 ·rename_i x h
  simp only at h;subst h;unfold CC.L;simp only;rw [List.perm_iff_count];intro y;simp [List.count_append,List.count_cons]
  try omega
 ·rename_i x y z h
  simp only at h;subst h;unfold CC.L;simp only;rw [List.perm_iff_count];intro y;simp [List.count_append,List.count_cons]
  try omega
 ·exact List.Perm.refl _
theorem Lm (n k:Nat) (C:CC):(takeA n k C).F=C.F:=by unfold takeA;split;(split<;>rfl);rfl
theorem La (n k:Nat) (C:CC):(takeB n k C).F=C.F:=by unfold takeB;split;(split<;>rfl);rfl
theorem L8 (C:CC):(fZ C).F=C.F:=by unfold fZ;split<;>rfl
theorem Ez {n k:Nat} {C:CC} (h:G n k k k k C):G n (k+1) k k k (takeA n k C):=by
 have hp:=qZ n k C;have hF:=Lm n k C;have rt:=fun x (hx:x∈(takeA n k C).L)=>h.rt x (hp.mem_iff.1 hx);have nd:=hp.nodup_iff.2 h.nd;have key:((takeA n k C).A.Pairwise (fun x y=>dM n C.F x<dM n C.F y))/\(∀x,x∈(takeA n k C).A->((k+1:Nat):Int)<=dM n C.F x)/\(takeA n k C).B=C.B/\(∀x,x∈(takeA n k C).N->dM n C.F x=k)/\(takeA n k C).O=C.O:=by
  obtain ⟨F,A,B,N,O,q⟩:=C;have a1:=h.a1;have a2:=h.a2;have n1:=h.n1;simp only at a1 a2 n1;unfold takeA;rcases A with _|⟨x,t⟩
  ·exact ⟨List.Pairwise.nil,fun x hx=>by (cases hx),rfl,n1,rfl⟩
  ·simp only;rw [List.pairwise_cons] at a1;have hx:=a2 x σ
   split
   ·rename_i hd
    refine ⟨a1.2,fun y hy=>?_,rfl,fun y hy=>?_,rfl⟩
    ·have:=a1.1 y hy;omega
    ·simp only at hy;rcases τ.1 hy with hy|hy
     ·exact n1 y hy
     ·simp at hy;subst hy;exact hd
   ·rename_i hd
    refine ⟨List.pairwise_cons.2 a1,fun y hy=>?_,rfl,n1,rfl⟩;rcases ρ.1 hy with rfl|hy
    ·omega
    ·have:=a1.1 y hy;omega
 obtain ⟨k1,k2,k3,k4,k5⟩:=key;rw [←hF] at k1 k2 k4;exact ⟨by rw [hF];exact h.f,fun x hx=>by rw [hF];exact rt x hx,nd,k1,k2,by rw [k3,hF];exact h.b1,by rw [k3,hF];exact h.b2,k4,by rw [k5,hF];exact h.o1,by rw [k5,hF];exact h.o2⟩
theorem EB {n k:Nat} {C:CC} (h:G n (k+1) k k k C):G n (k+1) (k+1) k k (takeB n k C):=by
 have hp:=qM n k C;have hF:=La n k C;have rt:=fun x (hx:x∈(takeB n k C).L)=>h.rt x (hp.mem_iff.1 hx);have nd:=hp.nodup_iff.2 h.nd;have key:((takeB n k C).B.Pairwise (fun x y=>dM n C.F x<dM n C.F y))/\(∀x,x∈(takeB n k C).B->((k+1:Nat):Int)<=dM n C.F x)/\(takeB n k C).A=C.A/\(∀x,x∈(takeB n k C).N->dM n C.F x=k)/\(takeB n k C).O=C.O:=by
  obtain ⟨F,A,B,N,O,q⟩:=C;have a1:=h.b1;have a2:=h.b2;have n1:=h.n1;simp only at a1 a2 n1;unfold takeB;rcases B with _|⟨x,t⟩
  ·exact ⟨List.Pairwise.nil,fun x hx=>by (cases hx),rfl,n1,rfl⟩
  ·simp only;rw [List.pairwise_cons] at a1;have hx:=a2 x σ
   split
   ·rename_i hd
    refine ⟨a1.2,fun y hy=>?_,rfl,fun y hy=>?_,rfl⟩
    ·have:=a1.1 y hy;omega
    ·simp only at hy;rcases τ.1 hy with hy|hy
     ·exact n1 y hy
     ·simp at hy;subst hy;exact hd
   ·rename_i hd
    refine ⟨List.pairwise_cons.2 a1,fun y hy=>?_,rfl,n1,rfl⟩;rcases ρ.1 hy with rfl|hy
    ·omega
    ·have:=a1.1 y hy;omega
 obtain ⟨k1,k2,k3,k4,k5⟩:=key;rw [←hF] at k1 k2 k4;exact ⟨by rw [hF];exact h.f,fun x hx=>by rw [hF];exact rt x hx,nd,by rw [k3,hF];exact h.a1,by rw [k3,hF];exact h.a2,k1,k2,k4,by rw [k5,hF];exact h.o1,by rw [k5,hF];exact h.o2⟩
theorem Dv {n k:Nat} {C:CC} (h:G n (k+1) (k+1) k k C):G n (k+1) (k+1) k (k+1) (fZ C):=by
 have hp:=qK C;have hF:=L8 C;have rt:=fun x (hx:x∈(fZ C).L)=>h.rt x (hp.mem_iff.1 hx);have nd:=hp.nodup_iff.2 h.nd;have key:(fZ C).A=C.A/\(fZ C).B=C.B/\(∀x,x∈(fZ C).N->x∈C.N)/\((fZ C).O=C.O\/∃x,x∈C.N/\(fZ C).O=C.O++[x]):=by
  unfold fZ
  split
  ·rename_i x hx
   exact ⟨rfl,rfl,fun y hy=>by (cases hy),Or.inr ⟨x,by rw [hx];simp,rfl⟩⟩
  ·rename_i x y z hx
   exact ⟨rfl,rfl,fun u hu=>by rw [hx];exact List.mem_cons_of_mem _ hu,Or.inr ⟨x,by rw [hx];simp,rfl⟩⟩
  ·exact ⟨rfl,rfl,fun y hy=>hy,Or.inl rfl⟩
 obtain ⟨k1,k2,k3,k4⟩:=key;refine ⟨by rw [hF];exact h.f,fun x hx=>by rw [hF];exact rt x hx,nd,by rw [k1,hF];exact h.a1,by rw [k1,hF];exact h.a2,by rw [k2,hF];exact h.b1,by rw [k2,hF];exact h.b2,fun x hx=>by rw [hF];exact h.n1 x (k3 x hx),?_,?_⟩
 ·rw [hF];rcases k4 with e|⟨x,hx,e⟩
  ·rw [e];exact h.o1
  ·rw [e,List.pairwise_append];exact ⟨h.o1,List.pairwise_singleton _ _,fun y hy z hz=>by simp at hz;subst hz;rw [h.n1 z hx];exact h.o2 y hy⟩
 ·rw [hF];intro y hy;rcases k4 with e|⟨x,hx,e⟩
  ·rw [e] at hy;have:=h.o2 y hy;omega
  ·rw [e] at hy;rcases τ.1 hy with hy|hy
   ·have:=h.o2 y hy;omega
   ·simp at hy;subst hy;rw [h.n1 y hx];omega
theorem zk {C:CC} (h:C.N.length<=3):(fZ C).N=[]\/∃x y,(fZ C).N=[x,y]:=by
 obtain ⟨F,A,B,N,O,q⟩:=C;simp only at h
 match N,h with
 | [],_=>exact Or.inl rfl
 | [x],_=>exact Or.inl rfl
 | [x,y],_=>exact Or.inr ⟨x,y,rfl⟩
 | [x,y,z],_=>exact Or.inr ⟨y,z,rfl⟩
 | _::_::_::_::_,h=>simp at h;try omega
theorem fQ (n:Nat) (F:CF) {x:Nat} (hx:x<n):dM n F x=(F.k x).length:=by unfold dM;rw [if_pos ω];simp
theorem vY (n:Nat) (F:CF) {a b:Nat} (ha:a<n) (x:Int) (hx:0<=x/\x<n):dM n (iH F a b) x=if x=a then dM n F a+1 else dM n F x:=by
 obtain ⟨y,rfl⟩:=Int.eq_ofNat_of_zero_le hx.1;have hy:y<n:=ω;rw [fQ _ _ hy,fQ _ _ ha,fQ _ _ hy];unfold iH;simp only
 by_cases e:y=a
 ·subst e;simp
 ·rw [if_neg e,if_neg ω]
theorem Ko {n k:Nat} {C:CC} (h:G n (k+1) (k+1) k (k+1) C) {x y:Int} (hN:C.N=[x,y]):∃a b:Nat,x=a/\y=b/\a<n/\b<n/\a≠b/\C.F.u a=-1/\C.F.u b=-1/\(C.F.k a).length=k/\(C.F.k b).length=k:=by
 have hx:=h.rt x (by unfold CC.L;rw [hN];simp);have hy:=h.rt y (by unfold CC.L;rw [hN];simp);have dx:=h.n1 x (by rw [hN];simp);have dy:=h.n1 y (by rw [hN];simp);obtain ⟨a,rfl⟩:=Int.eq_ofNat_of_zero_le hx.1;obtain ⟨b,rfl⟩:=Int.eq_ofNat_of_zero_le hy.1;have ha:a<n:=ω;have hb:b<n:=ω;rw [fQ _ _ ha] at dx;rw [fQ _ _ hb] at dy;refine ⟨a,b,rfl,rfl,ha,hb,fun e=>?_,by simpa using hx.2.2,by simpa using hy.2.2,ω,ω⟩;subst e;have:=h.nd;unfold CC.L at this;rw [hN] at this;rw [θ] at this;have:=this.2.1;rw [θ] at this;have:=this.2.1;simp at this
theorem NI (lt:Int->Int->Bool) (a b:Nat):(jW lt a b=a/\nu lt a b=b)\/(jW lt a b=b/\nu lt a b=a):=by
 unfold jW nu
 split
 ·exact Or.inr ⟨rfl,rfl⟩
 ·exact Or.inl ⟨rfl,rfl⟩
theorem Y4 {lt:Int->Int->Bool} {n k:Nat} {C:CC} (h:G n (k+1) (k+1) k (k+1) C) (hN:C.N=[]\/∃x y,C.N=[x,y]):G n (k+1) (k+1) (k+1) (k+1) (nA lt C)/\(nA lt C).N.length<=1/\(nA lt C).q+(nA lt C).L.length=C.q+C.L.length:=by
 rcases hN with hN|⟨x,y,hN⟩
 ·have e:nA lt C=C:=by unfold nA;rw [hN]
  rw [e];exact ⟨⟨h.f,h.rt,h.nd,h.a1,h.a2,h.b1,h.b2,fun x hx=>(by rw [hN] at hx;cases hx),h.o1,h.o2⟩,by rw [hN];simp,rfl⟩
 ·obtain ⟨a,b,rfl,rfl,ha,hb,hne,ra,rb,da,db⟩:=Ko h hN;have e:nA lt C={ C with F:=iH C.F (jW lt a b) (nu lt a b),N:=[(jW lt a b:Int)],q:=C.q+1 }:=by unfold nA;rw [hN];simp
  have hm:∀z,z∈C.A++(C.B++C.O)->z∈C.L/\z≠a/\z≠b:=fun z hz=>by
   have hnd:=h.nd;unfold CC.L at hnd ⊢;rw [hN] at hnd ⊢;have hp:(C.A++(C.B++([(a:Int),(b:Int)]++C.O))).Perm ((a:Int)::(b:Int)::(C.A++(C.B++C.O))):=by
    rw [List.perm_iff_count];intro y;simp [List.count_append,List.count_cons];omega
   have Er:=hp.nodup_iff.1 hnd;rw [List.nodup_cons,List.nodup_cons] at Er;refine ⟨hp.mem_iff.2 (List.mem_cons_of_mem _ (List.mem_cons_of_mem _ hz)),fun e=>?_,fun e=>?_⟩
   ·subst e;exact Er.1 (List.mem_cons_of_mem _ hz)
   ·subst e;exact Er.2.1 hz
  have hmA:∀z,z∈C.A->z∈C.A++(C.B++C.O):=fun z hz=>by simp [hz]
  have hmB:∀z,z∈C.B->z∈C.A++(C.B++C.O):=fun z hz=>by simp [hz]
  have hmO:∀z,z∈C.O->z∈C.A++(C.B++C.O):=fun z hz=>by simp [hz]
  obtain ⟨hi,lo,ehi,elo,hhi,hlo,hne2,rhi,rlo,dhi,dlo,Yp⟩:∃hi lo,jW lt a b=hi/\nu lt a b=lo/\hi<n/\lo<n/\hi≠lo/\C.F.u hi=-1/\C.F.u lo=-1/\(C.F.k hi).length=k/\(C.F.k lo).length=k/\((hi=a/\lo=b)\/(hi=b/\lo=a)):=by
   rcases NI lt a b with ⟨h1,h2⟩|⟨h1,h2⟩
   ·exact ⟨a,b,h1,h2,ha,hb,hne,ra,rb,da,db,Or.inl ⟨rfl,rfl⟩⟩
   ·exact ⟨b,a,h1,h2,hb,ha,Ne.symm hne,rb,ra,db,da,Or.inr ⟨rfl,rfl⟩⟩
  have zG:∀z,z∈C.A++(C.B++C.O)->z≠(hi:Int)/\z≠(lo:Int):=fun z hz=>by
   have:=hm z hz;rcases Yp with ⟨rfl,rfl⟩|⟨rfl,rfl⟩
   ·exact this.2
   ·exact ⟨this.2.2,this.2.1⟩
  have EE:∀z,z∈C.A++(C.B++C.O)->dM n (iH C.F hi lo) z=dM n C.F z:=fun z hz=>by
   have hr:=h.rt z (hm z hz).1;rw [vY n C.F hhi z ⟨hr.1,hr.2.1⟩,if_neg (zG z hz).1]
  rw [e,ehi,elo];have hL:(CC.L { C with F:=iH C.F hi lo,N:=[(hi:Int)],q:=C.q+1 }).Perm ((hi:Int)::(C.A++(C.B++C.O))):=by
   unfold CC.L;simp only;rw [List.perm_iff_count];intro y;simp [List.count_append,List.count_cons];omega
  refine ⟨⟨h.f.link hhi hlo hne2 rhi rlo (by rw [dhi,dlo]),fun z hz=>?_,hL.nodup_iff.2 (List.nodup_cons.2 ⟨fun hm2=>(zG _ hm2).1 rfl,?_⟩),?_,?_,?_,?_,?_,?_,?_⟩,σ,?_⟩
  ·rcases ρ.1 (hL.mem_iff.1 hz) with rfl|hz
   ·refine ⟨ω,ω,?_⟩;unfold iH;simp only [π];rw [if_neg hne2];exact rhi
   ·have hr:=h.rt z (hm z hz).1;refine ⟨hr.1,hr.2.1,?_⟩;unfold iH;simp only;rw [if_neg (fun e=>by have:=(zG z hz).2;omega)];exact hr.2.2
  ·have hnd:=h.nd;unfold CC.L at hnd;rw [hN] at hnd;have hp:(C.A++(C.B++([(a:Int),(b:Int)]++C.O))).Perm ((a:Int)::(b:Int)::(C.A++(C.B++C.O))):=by
    rw [List.perm_iff_count];intro y;simp [List.count_append,List.count_cons];omega
   have Er:=hp.nodup_iff.1 hnd;rw [List.nodup_cons,List.nodup_cons] at Er;exact Er.2.2
  ·exact h.a1.imp_of_mem (fun {x y} hx hy hxy=>by rw [EE x (hmA x hx),EE y (hmA y hy)];exact hxy)
  ·intro x hx
   show _<=dM n (iH C.F hi lo) x
   rw [EE x (hmA x hx)];exact h.a2 x hx
  ·exact h.b1.imp_of_mem (fun {x y} hx hy hxy=>by rw [EE x (hmB x hx),EE y (hmB y hy)];exact hxy)
  ·intro x hx
   show _<=dM n (iH C.F hi lo) x
   rw [EE x (hmB x hx)];exact h.b2 x hx
  ·intro x hx;simp at hx;subst hx
   show dM n (iH C.F hi lo) (hi:Int)=_
   rw [vY n C.F hhi hi ω,if_pos rfl,fQ n C.F hhi,dhi];omega
  ·exact h.o1.imp_of_mem (fun {x y} hx hy hxy=>by rw [EE x (hmO x hx),EE y (hmO y hy)];exact hxy)
  ·intro x hx
   show dM n (iH C.F hi lo) x<_
   rw [EE x (hmO x hx)];exact h.o2 x hx
  ·unfold CC.L;simp only [υ,List.length_cons,List.length_nil,hN];omega
theorem Ih {lt:Int->Int->Bool} {n:Nat} {C0:CC} (h:G n 0 0 0 0 C0) (hN:C0.N=[]):∀k,G n k k k k (gZ lt n k C0)/\(gZ lt n k C0).N.length<=1/\(gZ lt n k C0).q+(gZ lt n k C0).L.length=C0.q+C0.L.length
 | 0=>⟨h,by rw [gZ,hN];simp,rfl⟩
 | k+1=>by
  obtain ⟨g,h1,h2⟩:=Ih (lt:=lt) h hN k;have g1:=Ez g;have g2:=EB g1;have g3:=Dv g2;have t1:=(xy n k (gZ lt n k C0)).2;have t2:=(x8 n k (takeA n k (gZ lt n k C0))).2;have ev:=zk (C:=takeB n k (takeA n k (gZ lt n k C0))) ω;obtain ⟨g4,h3,h4⟩:=Y4 (lt:=lt) g3 ev;refine ⟨g4,h3,?_⟩;rw [gZ];unfold F7;rw [h4,PL,(qK _).length_eq,(qM _ _ _).length_eq,(qZ _ _ _).length_eq];exact h2
def wt (n:Nat) (F:CF) (l:List Int):Nat:=(l.map (fun x=>2 ^ (dM n F x).toNat)).sum
theorem Ex {n:Nat} {F:CF} {l m:List Int} (h:l.Perm m):wt n F l=wt n F m:=by
 unfold wt;exact (h.map _).sum_nat
theorem AO {n:Nat} {F F':CF} {l:List Int} (h:∀x,x∈l->dM n F x=dM n F' x):wt n F l=wt n F' l:=by
 unfold wt
 congr 1
 exact List.map_congr_left (fun x hx=>by rw [h x hx])
structure RI (lt:Int->Int->Bool) (n:Nat) (C0 C:CC):Prop where
 sub:∀x,x∈C.L->x∈C0.L
 out:∀x:Nat,(x:Int)∉C0.L->C.F.u x=C0.F.u x/\C.F.k x=C0.F.k x
 wt:wt n C.F C.L=wt n C0.F C0.L
 nl:∀y p:Nat,y<n->C.F.u y=p->C0.F.u y=p\/((y:Int)∈C0.L/\(p:Int)∈C0.L/\y≠p/\lt y p=false)
 ro:∀y:Nat,(y:Int)∈C0.L->(y:Int)∈C.L\/∃p:Nat,p<n/\C.F.u y=p
theorem RI.refl (lt:Int->Int->Bool) (n:Nat) (C:CC):RI lt n C C:=⟨fun x h=>h,fun x _=>⟨rfl,rfl⟩,rfl,fun y p _ h=>Or.inl h,fun y h=>Or.inl h⟩
theorem RI.trans {lt:Int->Int->Bool} {n:Nat} {A B C:CC} (h:RI lt n A B) (k:RI lt n B C):RI lt n A C:=
 ⟨fun x hx=>h.sub x (k.sub x hx),fun x hx=>by
  have h1:=h.out x hx;have h2:=k.out x (fun hm=>hx (h.sub _ hm));exact ⟨h2.1.trans h1.1,h2.2.trans h1.2⟩,k.wt.trans h.wt,fun y p hy hu=>by
  rcases k.nl y p hy hu with h1|⟨h1,h2,h3,h4⟩
  ·exact h.nl y p hy h1
  ·exact Or.inr ⟨h.sub _ h1,h.sub _ h2,h3,h4⟩,fun y hy=>by
  by_cases hB:(y:Int)∈B.L
  ·exact k.ro y hB
  ·rcases h.ro y hy with h1|⟨p,hp,h1⟩
   ·exact absurd h1 hB
   ·exact Or.inr ⟨p,hp,by rw [(k.out y hB).1];exact h1⟩⟩
theorem RI.perm {lt:Int->Int->Bool} {n:Nat} {C D:CC} (hp:D.L.Perm C.L) (hF:D.F=C.F):RI lt n C D:=
 ⟨fun x hx=>hp.mem_iff.1 hx,fun x _=>by rw [hF];exact ⟨rfl,rfl⟩,by rw [hF];exact Ex hp,fun y p _ h=>by rw [hF] at h;exact Or.inl h,fun y h=>Or.inl (hp.mem_iff.2 h)⟩
theorem UD {lt:Int->Int->Bool} {n k:Nat} {C:CC} (has:∀a b,lt a b=true->lt b a=false) (h:G n (k+1) (k+1) k (k+1) C) (hN:C.N=[]\/∃x y,C.N=[x,y]):RI lt n C (nA lt C):=by
 rcases hN with hN|⟨x,y,hN⟩
 ·have e:nA lt C=C:=by unfold nA;rw [hN]
  rw [e];exact RI.refl _ _ _
 ·obtain ⟨a,b,rfl,rfl,ha,hb,hne,ra,rb,da,db⟩:=Ko h hN;have e:nA lt C={ C with F:=iH C.F (jW lt a b) (nu lt a b),N:=[(jW lt a b:Int)],q:=C.q+1 }:=by unfold nA;rw [hN];simp
  rw [e];obtain ⟨hi,lo,ehi,elo,hhi,hlo,hne2,dhi,dlo,hah,Yp⟩:∃hi lo,jW lt a b=hi/\nu lt a b=lo/\hi<n/\lo<n/\hi≠lo/\(C.F.k hi).length=k/\(C.F.k lo).length=k/\lt lo hi=false/\((hi=a/\lo=b)\/(hi=b/\lo=a)):=by
   unfold jW nu
   by_cases hab:lt b a=true
   ·rw [if_pos hab,if_pos hab];exact ⟨b,a,rfl,rfl,hb,ha,Ne.symm hne,db,da,has _ _ hab,Or.inr ⟨rfl,rfl⟩⟩
   ·rw [if_neg hab,if_neg hab];exact ⟨a,b,rfl,rfl,ha,hb,hne,da,db,by simpa using hab,Or.inl ⟨rfl,rfl⟩⟩
  have Pz:C.L.Perm ((hi:Int)::(lo:Int)::(C.A++(C.B++C.O))):=by
   unfold CC.L;rw [hN,List.perm_iff_count];intro y;rcases Yp with ⟨rfl,rfl⟩|⟨rfl,rfl⟩<;>simp [List.count_append,List.count_cons]<;>omega
  have hL:(CC.L { C with F:=iH C.F hi lo,N:=[(hi:Int)],q:=C.q+1 }).Perm ((hi:Int)::(C.A++(C.B++C.O))):=by
   unfold CC.L;simp only;rw [List.perm_iff_count];intro y;simp [List.count_append,List.count_cons];omega
  have Er:=Pz.nodup_iff.1 h.nd;rw [List.nodup_cons,List.nodup_cons] at Er;rw [ehi,elo];refine ⟨fun x hx=>Pz.mem_iff.2 ?_,fun x hx=>?_,?_,fun y p hy hu=>?_,fun y hy=>?_⟩
  ·rcases ρ.1 (hL.mem_iff.1 hx) with rfl|hx
   ·simp
   ·exact List.mem_cons_of_mem _ (List.mem_cons_of_mem _ hx)
  ·unfold iH;simp only;rw [if_neg (fun e=>hx (by subst e;exact Pz.mem_iff.2 σ)),if_neg (fun e=>hx (by subst e;exact Pz.mem_iff.2 σ))];exact ⟨rfl,rfl⟩
  ·rw [Ex hL,Ex Pz];have hd:∀z,z∈C.A++(C.B++C.O)->dM n (iH C.F hi lo) z=dM n C.F z:=fun z hz=>by
    have hr:=h.rt z (Pz.mem_iff.2 (List.mem_cons_of_mem _ (List.mem_cons_of_mem _ hz)));rw [vY n C.F hhi z ⟨hr.1,hr.2.1⟩,if_neg (fun e=>by subst e;exact Er.1 (List.mem_cons_of_mem _ hz))]
   have e1:=AO hd;have e2:dM n (iH C.F hi lo) (hi:Int)=(k:Int)+1:=by rw [vY n C.F hhi hi ω,if_pos rfl,fQ n C.F hhi,dhi]
   have e3:dM n C.F (hi:Int)=(k:Int):=by rw [fQ n C.F hhi,dhi]
   have e4:dM n C.F (lo:Int)=(k:Int):=by rw [fQ n C.F hlo,dlo]
   have:∀ (F:CF) (x:Int) (l:List Int),wt n F (x::l)=2 ^ (dM n F x).toNat + wt n F l:=fun F x l=>by unfold wt;simp
   rw [this,this,this,e1,e2,e3,e4];have e5:((k:Int)+1).toNat=k+1:=ω;rw [e5,π,Nat.pow_succ];omega
  ·unfold iH at hu;simp only at hu
   split at hu
   ·rename_i e
    subst e;obtain rfl:hi=p:=ω;exact Or.inr ⟨Pz.mem_iff.2 σ,Pz.mem_iff.2 σ,Ne.symm hne2,hah⟩
   ·exact Or.inl hu
  ·rcases ρ.1 (Pz.mem_iff.1 hy) with e|hy
   ·exact Or.inl (hL.mem_iff.2 (by rw [e];simp))
   ·rcases ρ.1 hy with e|hy
    ·refine Or.inr ⟨hi,hhi,?_⟩;unfold iH;simp only;rw [if_pos ω]
    ·exact Or.inl (hL.mem_iff.2 (List.mem_cons_of_mem _ hy))
theorem JB {lt:Int->Int->Bool} {n:Nat} {C0:CC} (has:∀a b,lt a b=true->lt b a=false) (h:G n 0 0 0 0 C0) (hN:C0.N=[]):∀k,RI lt n C0 (gZ lt n k C0)
 | 0=>RI.refl _ _ _
 | k+1=>by
  obtain ⟨g,h1,h2⟩:=Ih (lt:=lt) h hN k;have g1:=Ez g;have g2:=EB g1;have g3:=Dv g2;have t1:=(xy n k (gZ lt n k C0)).2;have t2:=(x8 n k (takeA n k (gZ lt n k C0))).2;have ev:=zk (C:=takeB n k (takeA n k (gZ lt n k C0))) ω;have r4:=UD has g3 ev;exact ((((JB has h hN k).trans (RI.perm (qZ n k _) (Lm n k _))).trans (RI.perm (qM n k _) (La n k _))).trans (RI.perm (qK _) (L8 _))).trans r4
theorem g_ok {lt:Int->Int->Bool} {n:Nat} {C0:CC} {dom:Int->Prop} (has:∀a b,lt a b=true->lt b a=false) (hdm:∀x,x∈C0.L->dom x) (h:G n 0 0 0 0 C0) (hN:C0.N=[]) (hn:n<=65536) (hq:C0.q<=900000) (k:Nat):KW dom lt n k (gZ lt n k C0):=by
 obtain ⟨g,h1,h2⟩:=Ih (lt:=lt) h hN k;have hL0:C0.L.length<=n:=rV n _ h.nd (fun x hx=>by have:=h.rt x hx;omega);have hL:(gZ lt n k C0).L.length<=n:=rV n _ g.nd (fun x hx=>by have:=g.rt x hx;omega);have hLL:(gZ lt n k C0).L.length=(gZ lt n k C0).A.length+((gZ lt n k C0).B.length+((gZ lt n k C0).N.length+(gZ lt n k C0).O.length)):=by unfold CC.L;simp
 have dn:∀x,x∈(gZ lt n k C0).L->dM n (gZ lt n k C0).F x<=n:=fun x hx=>by
  have hr:=g.rt x hx;obtain ⟨y,rfl⟩:=Int.eq_ofNat_of_zero_le hr.1;have hy:y<n:=ω;rw [fQ _ _ hy];have:=g.f.len hy;omega
 refine ⟨h1,fun x y hxy=>?_,ω,ω,fun hne=>?_⟩
 ·have g3:=Dv (EB (Ez g));obtain ⟨a,b,e1,e2,ha,hb,hab,ra,rb,da,db⟩:=Ko g3 hxy;have hsub:∀z,z∈(fZ (takeB n k (takeA n k (gZ lt n k C0)))).L->dom z:=fun z hz=>hdm z ((JB has h hN k).sub z ((qZ n k _).mem_iff.1 ((qM n k _).mem_iff.1 ((qK _).mem_iff.1 hz))));have da':dom (a:Int):=by rw [←e1];exact hsub x (by unfold CC.L;rw [hxy];simp)
  have db':dom (b:Int):=by rw [←e2];exact hsub y (by unfold CC.L;rw [hxy];simp)
  refine ⟨a,b,e1,e2,da',db',ha,hb,hab,?_,?_,?_,g3.f.len ha,g3.f.len hb⟩
  ·unfold zB;rw [decide_eq_true ω];simp [ra]
  ·unfold zB;rw [decide_eq_true ω];simp [rb]
  ·rw [fQ _ _ ha,fQ _ _ hb,da,db]
 ·rcases hne with hne|hne|hne
  ·obtain ⟨x,t,e⟩:=List.exists_cons_of_ne_nil hne;have h3:=g.a2 x (by rw [e];simp);have h4:=dn x (by unfold CC.L;rw [e];simp);omega
  ·obtain ⟨x,t,e⟩:=List.exists_cons_of_ne_nil hne;have h3:=g.b2 x (by rw [e];simp);have h4:=dn x (by unfold CC.L;rw [e];simp);omega
  ·obtain ⟨x,t,e⟩:=List.exists_cons_of_ne_nil hne;have h3:=g.n1 x (by rw [e];simp);have h4:=dn x (by unfold CC.L;rw [e];simp);omega
end Go.Proofs.YtklibcncmbofpaaGreat
