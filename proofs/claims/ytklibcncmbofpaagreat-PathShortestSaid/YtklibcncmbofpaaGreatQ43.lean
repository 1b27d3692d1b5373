/-
  Lemmas for PathShortest: Psh. Conditions: those of each lemma.
-/
import Derived.Test.YtklibcncmbofpaaGreatQ36
import Derived.Test.YtklibcncmbofpaaGreatQ42
set_option linter.all false
set_option maxHeartbeats 8000000
set_option maxRecDepth 10000
namespace Go.Proofs.YtklibcncmbofpaaGreat
open Go Go.RowKit
theorem JU (w:World) (v:Value) (kd d N src:Int) (E:List Ed) (va:Value) (hG:LK w v N E va) :
  Calls Tryz.prog 9 #[.agg #[.int .i64 kd,.int .i64 d],v,.int .i64 src] w fun r w'=>r=.returned (.bool true)/\aa [] w w':=by
 obtain ⟨rfl,hE,hwb⟩:=hG;have kf:=fun W (hW:aa [] w W)=>Ol kd d N src va E W (hE.upd hW);have ke:=fun W (hW:aa [] w W)=>Qg kd d N src va E W (hE.upd hW) (fun e he=>(hwb e he).2);have hE0:=hE;obtain ⟨a,cap,rfl,hcap⟩:=hE.shape;have HE:=χ hE0;clear hE hE0 hwb;cases hg:JW N E.length with
 | true=>
  clear kf ke;generalize E.length=n at *
  go_enter Tryz.func9,Tryz.ntmps9
  go_wp2_with (first|((go_at_call 27;(with_reducible refine (rU _).mono ?_));rintro e w1 ⟨rfl,hu1⟩;(have q10:w1.cell? ⟨w.heap.size,0,none⟩=some (.int .i64 kd):=hu1.was γ);(have q11:w1.cell? ⟨w.heap.size,1,none⟩=some (.int .i64 d):=hu1.was γ);(have q12:w1.cell? ⟨w.heap.size+1,0,none⟩=some (.int .i64 N):=hu1.was γ);(have q13:w1.cell? ⟨w.heap.size+1,1,none⟩=some (.slice a n cap):=hu1.was γ);(have hw1:aa [] w w1:=aa.trans β hu1))|((go_at_call 28;(with_reducible refine (sD _ _ _ _ _).mono ?_));rw [hg];rintro e w2 ⟨rfl,hu2⟩;(have q20:=hu2.was q10);(have q21:=hu2.was q11);(have q22:=hu2.was q12);(have q23:=hu2.was q13);(have hw2:=hw1.trans hu2))|fail)
  go_ret;exact ⟨rfl,hw2⟩
 | false=>
  by_cases hf:oZ kd d N src E=0
  ·obtain ⟨hc,Bh,hs0,Xm⟩:=Fw hf;obtain ⟨N,rfl⟩:∃q:Nat,N=q:=⟨N.toNat,ω⟩;obtain ⟨s,rfl⟩:∃q:Nat,src=q:=⟨src.toNat,ω⟩;have hr:=jf Bh;have hbd:=mI hr;obtain ⟨K,ko⟩:=NC kd d N hc ω;have kF:=fun W (hW:aa [] w W)=>FY (K:=K) (kd:=kd) (dd:=d) W N s (.slice a E.length cap) E (HE.out.upd hW) Bh ω hc ko;have kT:=fun W vd vb D B (hW:aa [] w W) (hD:iT W [] vd D) (hB:iT W [] vb B)=>Si W N (.slice a E.length cap) vd vb E D B s (HE.out.upd hW) hD hB Bh ω;rw [hf] at kf;clear ke hf hc Bh hs0 Xm hr hbd ko;unfold Xc at kT;generalize hn:E.length=n at *;clear hn
   go_enter Tryz.func9,Tryz.ntmps9
   go_upto_region 9 with (first
    | ((go_at_call 27;(with_reducible refine (rU _).mono ?_));rintro e w1 ⟨rfl,hu1⟩;(have q10:w1.cell? ⟨w.heap.size,0,none⟩=some (.int .i64 kd):=hu1.was γ);(have q11:w1.cell? ⟨w.heap.size,1,none⟩=some (.int .i64 d):=hu1.was γ);(have q12:w1.cell? ⟨w.heap.size+1,0,none⟩=some (.int .i64 N):=hu1.was γ);(have q13:w1.cell? ⟨w.heap.size+1,1,none⟩=some (.slice a n cap):=hu1.was γ);(have hw1:aa [] w w1:=aa.trans β hu1))|((go_at_call 28;(with_reducible refine (sD _ _ _ _ _).mono ?_));rw [hg];rintro e w2 ⟨rfl,hu2⟩;(have q20:=hu2.was q10);(have q21:=hu2.was q11);(have q22:=hu2.was q12);(have q23:=hu2.was q13);(have hw2:=hw1.trans hu2))
    | ((go_at_call 29;(with_reducible refine (kF _ hw2).mono ?_));rintro e w3 ⟨vd,vb,D,B,rfl,hD,hB,hT,hu3⟩;(have hD0:=hD);(have hB0:=hB);obtain ⟨ad,cd,rfl,hd1,hd2, -⟩:=hD0;obtain ⟨ab,cb,rfl,hb1,hb2, -⟩:=hB0;(have q30:=hu3.was q20);(have q31:=hu3.was q21);(have q32:=hu3.was q22);(have q33:=hu3.was q23);(have hb3:w.heap.size+1<w3.heap.size:=World.block_lt_of_cell? _ _ q32);(have hb4:w.heap.size<w3.heap.size:=World.block_lt_of_cell? _ _ q30);(have hw3:=hw2.trans hu3))
    | ((go_at_call 30;(with_reducible refine (kf _ (hw3.trans β)).mono ?_));rintro e w4 ⟨rfl,iB⟩;(have t0:w4.cell? ⟨w3.heap.size,0,none⟩=some (.slice ad D.length cd):=iB.was γ);(have t1:w4.cell? ⟨w3.heap.size,1,none⟩=some (.slice ab B.length cb):=iB.was γ);(have q42:w4.cell? ⟨w.heap.size+1,0,none⟩=some (.int .i64 N):=(aa.trans β iB).was q32);(have q43:w4.cell? ⟨w.heap.size+1,1,none⟩=some (.slice a n cap):=(aa.trans β iB).was q33);(have hw4:aa [] w w4:=hw3.trans (aa.trans β iB)))
    | fail)
   have hu34:aa [] w3 w4:=aa.trans β iB;have kT4:=kT w4 _ _ D B hw4 (hD.fresh hu34 (F':=[]) (fun g hg=>Or.inl hg)) (hB.fresh hu34 (F':=[]) (fun g hg=>Or.inl hg));have hbt:=hT;clear hD hB hu1 hu2 hu3 iB kT kF kf
   go_wp2_with (first
    | ((go_at_call 31;(with_reducible refine (kT4).mono ?_));rintro e w5 ⟨b,rfl,hb,dm⟩;obtain rfl:b=true:=hb.2 hbt)
    | fail)
   go_ret;exact ⟨rfl,hw4.trans dm⟩
  ·have hv:(oZ kd d N src E != 0)=true:=by simpa using hf
   have ke':=fun W hW=>ke W hW hf;clear ke hf;generalize oZ kd d N src E=f at *;generalize E.length=n at *;obtain ⟨vd,hvd⟩:∃vd,vd=Value.slice none 0 0:=⟨_,rfl⟩;obtain ⟨vb,hvb⟩:∃vb,vb=Value.slice none 0 0:=⟨_,rfl⟩
   go_enter Tryz.func9,Tryz.ntmps9
   go_wp2_with (first
    | ((go_at_call 27;(with_reducible refine (rU _).mono ?_));rintro e w1 ⟨rfl,hu1⟩;(have q10:w1.cell? ⟨w.heap.size,0,none⟩=some (.int .i64 kd):=hu1.was γ);(have q11:w1.cell? ⟨w.heap.size,1,none⟩=some (.int .i64 d):=hu1.was γ);(have q12:w1.cell? ⟨w.heap.size+1,0,none⟩=some (.int .i64 N):=hu1.was γ);(have q13:w1.cell? ⟨w.heap.size+1,1,none⟩=some (.slice a n cap):=hu1.was γ);(have hw1:aa [] w w1:=aa.trans β hu1))|((go_at_call 28;(with_reducible refine (sD _ _ _ _ _).mono ?_));rw [hg];rintro e w2 ⟨rfl,hu2⟩;(have q20:=hu2.was q10);(have q21:=hu2.was q11);(have q22:=hu2.was q12);(have q23:=hu2.was q13);(have hw2:=hw1.trans hu2))
    | ((go_at_call 29;(with_reducible refine (ke' _ hw2).mono ?_));rintro e w3 ⟨rfl,hu3⟩;(have q30:=hu3.was q20);(have q31:=hu3.was q21);(have q32:=hu3.was q22);(have q33:=hu3.was q23);(have hb3:w.heap.size+1<w3.heap.size:=World.block_lt_of_cell? _ _ q32);(have hb4:w.heap.size<w3.heap.size:=World.block_lt_of_cell? _ _ q30);(have hw3:=hw2.trans hu3))
    | ((go_at_call 30;(with_reducible refine (kf _ (hw3.trans β)).mono ?_));rintro e w4 ⟨rfl,iB⟩;(have t0:w4.cell? ⟨w3.heap.size,0,none⟩=some (.slice none 0 0):=iB.was γ);(have t1:w4.cell? ⟨w3.heap.size,1,none⟩=some (.slice none 0 0):=iB.was γ);(have hw4:aa [] w w4:=hw3.trans (aa.trans β iB)))
    | fail)
   go_ret;exact ⟨aZ σ,hw4⟩
end Go.Proofs.YtklibcncmbofpaaGreat
