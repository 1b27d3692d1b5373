/-
  Lemmas for PathBest: Pb. Conditions: those of each lemma.
-/
import Derived.Test.YtklibcncmbofpaaGreatB36
import Derived.Test.YtklibcncmbofpaaGreatB42
set_option linter.all false
set_option maxHeartbeats 8000000
set_option maxRecDepth 10000
namespace Go.Proofs.YtklibcncmbofpaaGreat
open Go Go.RowKit
def yt (N:Nat) (E:List Ed) (k:Nat) (src at' far:Int):Prop:=
 (k=0/\src=0/\at'=-1/\far=0)\/(0<k/\∃s a:Nat,src=s/\at'=a/\s<N/\a<N/\0<=far/\far<9223372036854775807/\((passes (eN E) s N a:Nat):Int)<=far)
theorem yt.first {N:Nat} {E:List Ed} {i:Nat} (hw:dV (N:Int) E=true) (hi:i<E.length) (hb:(E.getD i default).w<4611686018427387904):yt N E 1 (E.getD i default).f (E.getD i default).t (0+(E.getD i default).w):=by
 have he:E.getD i default∈E:=List.mem_of_getElem? (show E[i]?=some (E.getD i default) by simp [φ,hi]);have hr:=gY (gX hw) he;have hm:=iE hw he;refine Or.inr ⟨ω,(E.getD i default).f.toNat,(E.getD i default).t.toNat,ω,ω,ω,ω,ω,ω,?_⟩;have P6:(E.getD i default).f.toNat<N:=ω;exact row_step (a:=(E.getD i default).f.toNat) (far:=0) hw P6 hi ω (by rw [CJ hw P6];omega) ω
theorem yt.next {N:Nat} {E:List Ed} {k i:Nat} {src at' far:Int} (hw:dV (N:Int) E=true) (h:yt N E k src at' far) (hk:0<k) (hi:i<E.length) (hf:(E.getD i default).f=at') (hl:far<4611686018427387904) (hb:(E.getD i default).w<4611686018427387904) :
  yt N E (k+1) src (E.getD i default).t (far+(E.getD i default).w):=by
 have he:E.getD i default∈E:=List.mem_of_getElem? (show E[i]?=some (E.getD i default) by simp [φ,hi]);have hr:=gY (gX hw) he;have hm:=iE hw he;rcases h with h|⟨_,s,a,h1,h2,h3,h4,h5,h6,h7⟩
 ·omega
 ·exact Or.inr ⟨ω,s,(E.getD i default).t.toNat,h1,ω,h3,ω,ω,ω,row_step hw h3 hi ω h7 hl⟩
theorem jU.ZL {N:Nat} {E:List Ed} (hw:dV (N:Int) E=true) {v:Int} {l:List Int} {u x:Int} (h:jU E v l u x):0<=x:=by
 induction h with
 | done=>omega
 | @step i l u x hi _ ih=>
  have he:E.getD i default∈E:=List.mem_of_getElem? (show E[i]?=some (E.getD i default) by simp [φ,hi]);have hm:=iE hw he;omega
theorem jU.head {E:List Ed} {v i:Int} {l:List Int} {u x:Int} (h:jU E v (i::l) u x):∃e:Nat,i=e/\e<E.length/\v=(E.getD e default).f/\∃y,jU E (E.getD e default).t l u y/\x=(E.getD e default).w+y:=by
 cases h with
 | step hi h=>exact ⟨_,rfl,hi,rfl,_,h,rfl⟩
theorem jU.nil {E:List Ed} {v:Int} {u x:Int} (h:jU E v [] u x):v=u/\x=0:=by
 cases h with
 | done=>exact ⟨rfl,rfl⟩
theorem VZ {K:gV} {kd dd:Int} (W:World) (N s b:Nat) (va:Value) (E:List Ed) (hE:Bi W va E) (IM:dV (N:Int) E=true) (hs:s<N) (hb:b<N) (hc:BM kd dd=0) (ko:oW K kd dd N) {p:Int} (hpi:passes (eN E) s N b<9223372036854775807) (hp:((passes (eN E) s N b:Nat):Int)=p) :
  Calls Tryz.prog 29 #[.agg #[.int .i64 kd,.int .i64 dd],.agg #[.int .i64 (N:Int),va],.int .i64 (s:Int)] W fun e w'=>∃gd od cd ab cb,e=.returned (.tuple #[.agg #[.slice (some ⟨gd,od,none⟩) N cd,.slice ab N cb],.int .i64 0])/\gd<w'.heap.size/\w'.cell? ⟨gd,od+b,none⟩=some (.int .i64 p)/\
   (∀W',aa [] w' W'->Calls Tryz.prog 33 #[.agg #[.int .i64 (N:Int),va],.agg #[.slice (some ⟨gd,od,none⟩) N cd,.slice ab N cb],.int .i64 (b:Int)] W' fun e2 w2=>∃ag cg l,e2=.returned (.tuple #[.slice ag l.length cg,.bool true])/\iw w2 [] (.slice ag l.length cg) l/\jU E s l b p/\aa [] W' w2)/\aa [] W w':=by
 refine (Il (K:=K) (kd:=kd) (dd:=dd) W N s va E hE IM hs hc ko).mono ?_;rintro e w5 ⟨vd,vb,D,B,rfl,hD,hB,hT,cu⟩;have hD0:=hD;have hB0:=hB;obtain ⟨ad,cd,rfl, -, -,hdc⟩:=hD;obtain ⟨ab,cb,rfl, -, -, -⟩:=hB;have hbD:b<D.length:=by have:=hT.1;omega
 have hdv:D[b]?=some p:=by
  have h:=(hT.2.2 b hb).1;rw [hp] at h;rw [←h];simp [φ,hbD]
 obtain ⟨gd,od,rfl,hgd, -,c0⟩:=hdc b p hdv;have e1:=hT.1;have e2:=hT.2.1;obtain ⟨l,hl,hr⟩:=Rz IM hs hT hb (by unfold inf;omega);have kW:=fun W' (hW:aa [] w5 W')=>SC W' N b va _ _ E D B (hE.upd (cu.trans hW)) (hD0.fresh hW (F':=[]) (fun g hg=>Or.inl hg)) (hB0.fresh hW (F':=[]) (fun g hg=>Or.inl hg));rw [hl,e1,e2] at kW;rw [e1,e2];refine ⟨gd,od,cd,ab,cb,rfl,hgd,c0,fun W' hW=>(kW W' hW).mono ?_,cu⟩;rintro e w6 ⟨vo,rfl,hl6,iB⟩;have hl7:=hl6;obtain ⟨ag,cg,rfl, -, -, -⟩:=hl7;exact ⟨ag,cg,l,rfl,hl6,by rw [←hp];exact hr,iB⟩
set_option maxRecDepth 100000 in
open Go.ChangeShapes Go.ChangeAt Go.WideShapes in
theorem Bu {H:Type} {enc:TypeId×Value->H} {W:World} {v:Value} {d:DataW H} {p:List MemPlace} {base:Nat} {sp:Nat->Bool}
  (ho:Value.okWide Tryz.prog W .any base 26 v) (h:DataW.Trod enc Tryz.prog W 0 sp true 26 v d p):∃zs,iw W [] v zs:=by
 obtain ⟨a,len,cap,rfl⟩:=okWide_slice Tryz.underlying26 ho;obtain ⟨fuel,hf⟩:=h;obtain ⟨zs,hz,_⟩:=Gw (v:=.slice a len cap) Tryz.underlying26 Tryz.underlying3 (by kernel_rfl) (by simpa [Value.cells] using hf);exact ⟨zs,hz⟩
theorem Ou (w:World) (v:Value) (kd d N:Int) (E:List Ed) (va vr:Value) (R:List Int) (hG:Li w v N E va) (hR:iw w [] vr R) :
  Calls Tryz.prog 12 #[.agg #[.int .i64 kd,.int .i64 d],v,vr] w fun r w'=>r=.returned (.bool true)/\aa [] w w':=by
 obtain ⟨rfl,hE,hwb⟩:=hG;have kc:=fun W=>Jo kd d W;have kw:=fun W (hW:aa [] w W)=>KE W N va E (hE.upd hW);have hE0:=hE;obtain ⟨a,cap,rfl,hcap⟩:=hE.shape;obtain ⟨ar,cr,rfl, -,hcr,hRc⟩:=hR;have HE:=χ (ψ hE0 hwb);have HRC:=χ hRc;clear hE hE0 hwb hRc;generalize hrn:R.length=rn at *;have HRN:=χ hrn;clear hrn;cases hg:Jj N E.length with
 | true=>
  clear kc kw;generalize E.length=n at *
  go_enter Tryz.func12,Tryz.ntmps12
  go_wp2_with (first|((go_at_call 27;(with_reducible refine (lh _).mono ?_));rintro e w1 ⟨rfl,hu1⟩;(have Qv:w1.cell? ⟨w.heap.size,0,none⟩=some (.int .i64 kd):=hu1.was γ);(have Qh:w1.cell? ⟨w.heap.size,1,none⟩=some (.int .i64 d):=hu1.was γ);(have QM:w1.cell? ⟨w.heap.size+1,0,none⟩=some (.int .i64 N):=hu1.was γ);(have Re:w1.cell? ⟨w.heap.size+1,1,none⟩=some (.slice a n cap):=hu1.was γ);(have hw1:aa [] w w1:=aa.trans β hu1))|((go_at_call 28;(with_reducible refine (lg _ _ _ _ _).mono ?_));rw [hg];rintro e w2 ⟨rfl,hu2⟩;(have Xz:=hu2.was Qv);(have Xp:=hu2.was Qh);(have q22:=hu2.was QM);(have WW:=hu2.was Re);(have hw2:=hw1.trans hu2))|fail)
  go_ret;exact ⟨rfl,hw2⟩
 | false=>
  by_cases h60:60<rn
  ·have h60b:decide ((rn:Int) > 60)=true:=ζ;clear kc kw;generalize E.length=n at *
   go_enter Tryz.func12,Tryz.ntmps12
   go_wp2_with (first|((go_at_call 27;(with_reducible refine (lh _).mono ?_));rintro e w1 ⟨rfl,hu1⟩;(have Qv:w1.cell? ⟨w.heap.size,0,none⟩=some (.int .i64 kd):=hu1.was γ);(have Qh:w1.cell? ⟨w.heap.size,1,none⟩=some (.int .i64 d):=hu1.was γ);(have QM:w1.cell? ⟨w.heap.size+1,0,none⟩=some (.int .i64 N):=hu1.was γ);(have Re:w1.cell? ⟨w.heap.size+1,1,none⟩=some (.slice a n cap):=hu1.was γ);(have hw1:aa [] w w1:=aa.trans β hu1))|((go_at_call 28;(with_reducible refine (lg _ _ _ _ _).mono ?_));rw [hg];rintro e w2 ⟨rfl,hu2⟩;(have Xz:=hu2.was Qv);(have Xp:=hu2.was Qh);(have q22:=hu2.was QM);(have WW:=hu2.was Re);(have hw2:=hw1.trans hu2))|fail)
   go_ret;exact ⟨rfl,hw2⟩
  ·have h60b:decide ((rn:Int) > 60)=false:=ζ
   by_cases h0:rn=0
   ·have h0b:((rn:Int) == 0)=true:=by simp [h0]
    clear kc kw;generalize E.length=n at *
    go_enter Tryz.func12,Tryz.ntmps12
    go_wp2_with (first|((go_at_call 27;(with_reducible refine (lh _).mono ?_));rintro e w1 ⟨rfl,hu1⟩;(have Qv:w1.cell? ⟨w.heap.size,0,none⟩=some (.int .i64 kd):=hu1.was γ);(have Qh:w1.cell? ⟨w.heap.size,1,none⟩=some (.int .i64 d):=hu1.was γ);(have QM:w1.cell? ⟨w.heap.size+1,0,none⟩=some (.int .i64 N):=hu1.was γ);(have Re:w1.cell? ⟨w.heap.size+1,1,none⟩=some (.slice a n cap):=hu1.was γ);(have hw1:aa [] w w1:=aa.trans β hu1))|((go_at_call 28;(with_reducible refine (lg _ _ _ _ _).mono ?_));rw [hg];rintro e w2 ⟨rfl,hu2⟩;(have Xz:=hu2.was Qv);(have Xp:=hu2.was Qh);(have q22:=hu2.was QM);(have WW:=hu2.was Re);(have hw2:=hw1.trans hu2))|fail)
    go_ret;exact ⟨rfl,hw2⟩
   ·have h0b:((rn:Int) == 0)=false:=by simp [h0]
    by_cases hc:BM kd d=0
    ·rw [hc] at kc;cases IM:dV N E with
     | false=>
      rw [IM] at kw;clear hc IM;generalize E.length=n at *
      go_enter Tryz.func12,Tryz.ntmps12
      go_wp2_with (first|((go_at_call 27;(with_reducible refine (lh _).mono ?_));rintro e w1 ⟨rfl,hu1⟩;(have Qv:w1.cell? ⟨w.heap.size,0,none⟩=some (.int .i64 kd):=hu1.was γ);(have Qh:w1.cell? ⟨w.heap.size,1,none⟩=some (.int .i64 d):=hu1.was γ);(have QM:w1.cell? ⟨w.heap.size+1,0,none⟩=some (.int .i64 N):=hu1.was γ);(have Re:w1.cell? ⟨w.heap.size+1,1,none⟩=some (.slice a n cap):=hu1.was γ);(have hw1:aa [] w w1:=aa.trans β hu1))|((go_at_call 28;(with_reducible refine (lg _ _ _ _ _).mono ?_));rw [hg];rintro e w2 ⟨rfl,hu2⟩;(have Xz:=hu2.was Qv);(have Xp:=hu2.was Qh);(have q22:=hu2.was QM);(have WW:=hu2.was Re);(have hw2:=hw1.trans hu2))|((go_at_call 18;(with_reducible refine (kc _).mono ?_));rintro e w3 ⟨rfl,hu3⟩;(have q30:=hu3.was Xz);(have q31:=hu3.was Xp);(have q32:=hu3.was q22);(have q33:=hu3.was WW);(have hw3:=hw2.trans hu3))|((go_at_call 32;(with_reducible refine (kw _ hw3).mono ?_));rintro e w4 ⟨rfl,iC⟩;(have q40:=iC.was q30);(have q41:=iC.was q31);(have q42:=iC.was q32);(have q43:=iC.was q33);(have hw4:=hw3.trans iC))|fail)
      go_ret;exact ⟨rfl,hw4⟩
     | true=>
      rw [IM] at kw;have hr:=gX IM;have hbd:=nS hr;have Uc:=χ (ψ IM (ψ hc hbd));obtain ⟨N,rfl⟩:∃q:Nat,N=q:=⟨N.toNat,by have:=hbd.1;omega⟩;clear hr hbd IM hc;generalize hn:E.length=n at *;have HN:=χ hn;clear hn
      go_enter Tryz.func12,Tryz.ntmps12
      go_wp2_with (first|((go_at_call 27;(with_reducible refine (lh _).mono ?_));rintro e w1 ⟨rfl,hu1⟩;(have Qv:w1.cell? ⟨w.heap.size,0,none⟩=some (.int .i64 kd):=hu1.was γ);(have Qh:w1.cell? ⟨w.heap.size,1,none⟩=some (.int .i64 d):=hu1.was γ);(have QM:w1.cell? ⟨w.heap.size+1,0,none⟩=some (.int .i64 N):=hu1.was γ);(have Re:w1.cell? ⟨w.heap.size+1,1,none⟩=some (.slice a n cap):=hu1.was γ);(have hw1:aa [] w w1:=aa.trans β hu1))|((go_at_call 28;(with_reducible refine (lg _ _ _ _ _).mono ?_));rw [hg];rintro e w2 ⟨rfl,hu2⟩;(have Xz:=hu2.was Qv);(have Xp:=hu2.was Qh);(have q22:=hu2.was QM);(have WW:=hu2.was Re);(have hw2:=hw1.trans hu2))|((go_at_call 18;(with_reducible refine (kc _).mono ?_));rintro e w3 ⟨rfl,hu3⟩;(have q30:=hu3.was Xz);(have q31:=hu3.was Xp);(have q32:=hu3.was q22);(have q33:=hu3.was WW);(have hw3:=hw2.trans hu3))|((go_at_call 32;(with_reducible refine (kw _ hw3).mono ?_));rintro e w4 ⟨rfl,iC⟩;(have q40:=iC.was q30);(have q41:=iC.was q31);(have q42:=iC.was q32);(have q43:=iC.was q33);(have hw4:=hw3.trans iC))|fail)
      have O0:=χ hw4;clear hu1 hu2 hu3 iC hw1 hw2 hw3 hw4 kc kw
      go_loopw [7,8,9,10,11,46] (fun s7 s8 s9 _ _ i wr=>∃ (k:Nat) (src at' far:Int),k<=rn/\i=.int .i64 (k:Int)/\s7=.int .i64 src/\s8=.int .i64 at'/\s9=.int .i64 far/\yt N E k src at' far/\aa [] w4 wr) (fun _ _ _ _ _ i _=>rn-(intOf i).toNat)
      case atStart=>exact ⟨0,0, -1,0,ω,rfl,rfl,rfl,rfl,Or.inl ⟨rfl,rfl,rfl,rfl⟩,aa.refl _ _⟩
      case round=>
       obtain ⟨k,src,at',far,hk,rfl,rfl,rfl,rfl,hst,hu⟩:=hrel;rename World=>wr;have p0:=hu.was q40;have p1:=hu.was q41;have p2:=hu.was q42;have p3:=hu.was q43
       by_cases hkn:k<rn
       ·have hkR:k<R.length:=by have:=HRN.out;omega
        have hx:R[k]?=some (R.getD k 0):=by simp [φ,hkR]
        obtain ⟨g,off,rfl,hgl, -,c0⟩:=HRC.out k _ hx;have cb:=(O0.out.trans hu).was c0;have hgr:=Nat.lt_of_lt_of_le hgl (O0.out.trans hu).size;have Zn:(k:Int)<(rn:Int):=ω;have hwr:IntKind.i64.wrap ((k:Int)+1)=(k:Int)+1:=IntWalk.i64_in _ ω;generalize R.getD k 0=x at *;clear hx c0
        by_cases hx0:x<0
        ·have hxb:decide (x<0)=true:=by simpa using hx0
         go_wp2;go_ret;exact ⟨rfl,O0.out.trans hu⟩
        ·have hxb:decide (x<0)=false:=by simpa using hx0
         by_cases rO:(n:Int)<=x
         ·have hxc:decide (x≥(n:Int))=true:=by simpa using rO
          go_wp2;go_ret;exact ⟨rfl,O0.out.trans hu⟩
         ·have hxc:decide (x≥(n:Int))=false:=ζ;obtain ⟨e,rfl⟩:∃q:Nat,x=q:=⟨x.toNat,ω⟩;have Xd:e<E.length:=by have:=HN.out;omega
          obtain ⟨ge,oe,rfl,hge,e0',e1',e2'⟩:=HE.out.1.at e Xd;have e0:=(O0.out.trans hu).was e0';have e1:=(O0.out.trans hu).was e1';have e2:=(O0.out.trans hu).was e2';have hger:=Nat.lt_of_lt_of_le hge (O0.out.trans hu).size;have QJ:=iE Uc.out.1 (List.mem_of_getElem? (show E[e]?=some (E.getD e default) by simp [φ,Xd]));have hw0:0<=(E.getD e default).w:=QJ.1;have lK:=χ (fun h=>yt.first Uc.out.1 Xd h);have hnext:=χ (fun h0 h1 h2 h3=>yt.next Uc.out.1 hst h0 Xd h1 h2 h3);have HST:=χ hst;clear hst e0' e1' e2' QJ;generalize E.getD e default=ed at *
          by_cases hk0:k=0
          ·subst hk0;obtain ⟨-,rfl,rfl,rfl⟩:(0:Nat)=0/\src=0/\at'=-1/\far=0:=by
            rcases HST.out with h|h
            ·exact h
            ·exact absurd h.1 ω
           by_cases hbw:ed.w<4611686018427387904
           ·have hbb:decide (ed.w≥4611686018427387904)=false:=ζ;have HR:=χ (lK.out hbw);have hws:IntKind.i64.wrap (0+ed.w)=0+ed.w:=IntWalk.i64_in _ ω;have hws':IntKind.i64.wrap ed.w=ed.w:=IntWalk.i64_in _ ω;have cb0:wr.cell? ⟨g,off,none⟩=some (.int .i64 (e:Int)):=by simpa using cb
            clear lK hnext HST;go_wp2
            go_roundw
            case rel=>exact ⟨1,ed.f,ed.t,0+ed.w,ω,by go_num,rfl,rfl,by go_num,HR.out,hu⟩
            case measure=>simp [intOf];omega
           ·have hbb:decide (ed.w≥4611686018427387904)=true:=ζ;have cb0:wr.cell? ⟨g,off,none⟩=some (.int .i64 (e:Int)):=by simpa using cb
            clear lK hnext HST;go_wp2;go_ret;exact ⟨rfl,O0.out.trans hu⟩
          ·have hkb:decide ((k:Int) > 0)=true:=ζ;have hkb2:((k:Int) == 0)=false:=ζ;have hkb3:decide (0<k)=true:=ζ;have hkb4:(k == 0)=false:=ζ
           by_cases hfa:ed.f=at'
           ·have hfb:(ed.f != at')=false:=by simpa using hfa
            by_cases zG:far<4611686018427387904
            ·have hfc:decide (far≥4611686018427387904)=false:=ζ
             by_cases hbw:ed.w<4611686018427387904
             ·have hbb:decide (ed.w≥4611686018427387904)=false:=ζ;have HR:=χ (hnext.out ω hfa zG hbw);have hf0:0<=far:=by
               rcases HST.out with h|⟨_,_,_,_,_,_,_,h,_⟩
               ·exact absurd h.1 hk0
               ·exact h
              have hws:IntKind.i64.wrap (far+ed.w)=far+ed.w:=IntWalk.i64_in _ ω;clear lK hnext HST hfa hk0;go_wp2
              go_roundw
              case rel=>exact ⟨k+1,src,ed.t,far+ed.w,ω,by go_num,rfl,rfl,by go_num,HR.out,hu⟩
              case measure=>simp [intOf];omega
             ·have hbb:decide (ed.w≥4611686018427387904)=true:=ζ;clear lK hnext HST hfa hk0;go_wp2;go_ret;exact ⟨rfl,O0.out.trans hu⟩
            ·have hfc:decide (far≥4611686018427387904)=true:=ζ;clear lK hnext HST hfa hk0;go_wp2;go_ret;exact ⟨rfl,O0.out.trans hu⟩
           ·have hfb:(ed.f != at')=true:=by simpa using hfa
            clear lK hnext HST hfa hk0;go_wp2;go_ret;exact ⟨rfl,O0.out.trans hu⟩
       ·have Zn:¬ (k:Int)<(rn:Int):=ω;rcases hst with ⟨h, -⟩|⟨-,s,b,rfl,rfl,hs,hb,hf0,hf1,hpf⟩
        ·exact absurd h ω
        obtain ⟨K,ko⟩:=OQ kd d N Uc.out.2.1 (by have:=Uc.out.2.2;omega);obtain ⟨p,hp⟩:∃p:Int,((passes (eN E) s N b:Nat):Int)=p:=⟨_,rfl⟩;have kF:=fun W (hW:aa [] w W)=>VZ (K:=K) (kd:=kd) (dd:=d) W N s b (.slice a n cap) E (HE.out.1.upd hW) Uc.out.1 hs hb Uc.out.2.1 ko ω hp;have hp0:decide (p > far)=false:=ζ;have hp1:decide (p<0)=false:=ζ;have HP:=χ (show p<=9223372036854775807 by omega);have hpn:0<=p:=ω;have hbI:(b:Int)<(N:Int):=ω;have hwU:=O0.out.trans hu;clear hpf hp ko hf0 hf1 hs hb hk hu
        go_wp2_with (first
         | ((go_at_call 29;(with_reducible refine (kF _ hwU).mono ?_));rintro e w5 ⟨gd,od,cd,ab,cb,rfl,hgd,c5,kW,cu⟩;(have t0:=cu.was p2);(have t1:=cu.was p3);(have Pv:=hwU.trans cu);(have hb5:w.heap.size+1<w5.heap.size:=World.block_lt_of_cell? _ _ t0))
         | ((go_at_call 33;(with_reducible refine (kW _ β).mono ?_));rintro e w6 ⟨ag,cg,l,rfl,hl,hrun,iB⟩;(have HL:=χ (ψ hl hrun));clear hl hrun;(have PW:aa [] w5 w6:=aa.trans β iB);(have r0:=PW.was t0);(have r1:=PW.was t1);(have c6:=PW.was c5);(have tt:w6.cell? ⟨w5.heap.size,0,none⟩=some (.slice (some ⟨gd,od,none⟩) N cd):=iB.was γ);(have DD:=Pv.trans PW))
         | fail)
        have hbd2:=Uc.out.2.2;have VO:=χ DD;clear kF kW cu iB PW Pv DD hwU t0 t1 c5 p0 p1 p2 p3 q40 q41 q42 q43;obtain ⟨al,cl,he1,hlb1,hlb2,hlc⟩:=HL.out.1;cases he1;have hlb:l.length<=9223372036854775807:=ω;clear hlb1 hlb2;have HLC:=χ hlc;have HRW:=χ HL.out.2;clear hlc HL;generalize hln:l.length=ln at *;have Wo:=χ hln;clear hln
        go_loopw [16,17,19,152] (fun ss sv _ iv wr=>∃ (j:Nat) (sum u rest:Int),j<=ln/\iv=.int .i64 (j:Int)/\ss=.int .i64 sum/\sv=.int .i64 u/\jU E u (l.drop j) (b:Int) rest/\sum+rest=p/\0<=sum/\aa [] w6 wr) (fun _ _ _ iv _=>ln-(intOf iv).toNat)
        case atStart=>exact ⟨0,0,(s:Int),p,ω,rfl,rfl,rfl,by rw [List.drop_zero];exact HRW.out,ω,ω,aa.refl _ _⟩
        case round=>
         obtain ⟨j,sum,u,rest,hj,rfl,rfl,rfl,hrun,hsum,hs0,hu⟩:=hrel;rename World=>wr;have p0:=hu.was r0;have p1:=hu.was r1;have p5:=hu.was c6;have p6:=hu.was tt
         by_cases hjn:j<ln
         ·have hjl:j<l.length:=by have:=Wo.out;omega
          have hx:l[j]?=some (l.getD j 0):=by simp [φ,hjl]
          have hd:l.drop j=l.getD j 0::l.drop (j+1):=by rw [List.drop_eq_getElem_cons hjl];simp [φ,hjl]
          rw [hd] at hrun;obtain ⟨gl,ol,rfl,hgl, -,c0⟩:=HLC.out j _ hx;have cb:=hu.was c0;have hgr:=Nat.lt_of_lt_of_le hgl hu.size;obtain ⟨e,hie,Xd,rfl,y,UR,rfl⟩:=hrun.head;rw [hie] at cb;obtain ⟨ge,oe,rfl,hge,e0',e1',e2'⟩:=HE.out.1.at e Xd;have e0:=(VO.out.trans hu).was e0';have e1:=(VO.out.trans hu).was e1';have e2:=(VO.out.trans hu).was e2';have hger:=Nat.lt_of_lt_of_le hge (VO.out.trans hu).size;have hw0:0<=(E.getD e default).w:=(iE Uc.out.1 (List.mem_of_getElem? (show E[e]?=some (E.getD e default) by simp [φ,Xd]))).1;have hy0:=UR.ZL Uc.out.1
          have hen:(e:Int)<(n:Int):=by have:=HN.out;omega
          have henb:decide ((e:Int)≥(n:Int))=false:=ζ;have Xi:(j:Int)<(ln:Int):=ω;have hwr:IntKind.i64.wrap ((j:Int)+1)=(j:Int)+1:=IntWalk.i64_in _ ω;have hws:IntKind.i64.wrap (sum+(E.getD e default).w)=sum+(E.getD e default).w:=IntWalk.i64_in _ (by have:=HP.out;omega);have HRY:=χ UR;clear UR hx hd hie Xd e0' e1' e2' c0 hrun;generalize E.getD e default=ed at *;generalize l.getD j 0=x at *;go_wp2
          go_roundw
          case rel=>exact ⟨j+1,sum+ed.w,ed.t,y,ω,by go_num,by go_num,rfl,HRY.out,ω,ω,hu⟩
          case measure=>simp [intOf];omega
         ·have Xi:¬ (j:Int)<(ln:Int):=ω;have hd:l.drop j=[]:=List.drop_eq_nil_of_le (by have:=Wo.out;omega);rw [hd] at hrun;obtain ⟨rfl,rfl⟩:=hrun.nil;have hsp:(sum == p)=true:=ζ;have hsp2:sum=p:=ω;clear hrun hd;go_wp2;go_ret;exact ⟨rfl,VO.out.trans hu⟩
    ·have hv:(BM kd d != 0)=true:=by simpa using hc
     clear hc kw;generalize BM kd d=f at *;generalize E.length=n at *
     go_enter Tryz.func12,Tryz.ntmps12
     go_wp2_with (first|((go_at_call 27;(with_reducible refine (lh _).mono ?_));rintro e w1 ⟨rfl,hu1⟩;(have Qv:w1.cell? ⟨w.heap.size,0,none⟩=some (.int .i64 kd):=hu1.was γ);(have Qh:w1.cell? ⟨w.heap.size,1,none⟩=some (.int .i64 d):=hu1.was γ);(have QM:w1.cell? ⟨w.heap.size+1,0,none⟩=some (.int .i64 N):=hu1.was γ);(have Re:w1.cell? ⟨w.heap.size+1,1,none⟩=some (.slice a n cap):=hu1.was γ);(have hw1:aa [] w w1:=aa.trans β hu1))|((go_at_call 28;(with_reducible refine (lg _ _ _ _ _).mono ?_));rw [hg];rintro e w2 ⟨rfl,hu2⟩;(have Xz:=hu2.was Qv);(have Xp:=hu2.was Qh);(have q22:=hu2.was QM);(have WW:=hu2.was Re);(have hw2:=hw1.trans hu2))|((go_at_call 18;(with_reducible refine (kc _).mono ?_));rintro e w3 ⟨rfl,hu3⟩;(have q30:=hu3.was Xz);(have q31:=hu3.was Xp);(have q32:=hu3.was q22);(have q33:=hu3.was WW);(have hw3:=hw2.trans hu3))|fail)
     go_ret;exact ⟨rfl,hw3⟩
end Go.Proofs.YtklibcncmbofpaaGreat
