/-
  Lemmas for RankMerges: RkMg, LlI. Conditions: those of each lemma.
-/
import Derived.Test.YtklibcncmbofpaaGreatB15
import Derived.Test.YtklibcncmbofpaaGreatB17
set_option linter.all false
set_option maxHeartbeats 8000000
set_option maxRecDepth 10000
namespace Go.Proofs.YtklibcncmbofpaaGreat
open Go Go.RowKit
def eZ (Z:List (List Int)):Nat:=(Z.map (fun l=>min l.length 200)).sum
theorem EE {Z:List (List Int)} {i:Nat} {l:List Int} (h:Z[i]?=some l):eZ (Z.take (i+1))=eZ (Z.take i)+min l.length 200:=by
 unfold eZ;rw [ϐ,h];simp
theorem Be:∀Z:List (List Int),eZ Z<=200*Z.length
 | []=>by simp [eZ]
 | l::r=>by
  have h1:=Be r;have e:eZ (l::r)=min l.length 200+eZ r:=by simp [eZ]
  rw [e,Ω];omega
theorem xZ:∀Z:List (List Int),eZ Z<=100->bJ Z=eZ Z
 | [],_=>rfl
 | l::r,h=>by
  have e:eZ (l::r)=min l.length 200+eZ r:=by simp [eZ]
  have e2:bJ (l::r)=l.length+bJ r:=by simp [bJ]
  have h1:=xZ r ω;omega
theorem BM (w:World) (va:Value) (kd d:Int) (Z:List (List Int)) (h:qz w va Z) (hb:∀l,l∈Z->∀x,x∈l->-9223372036854775808<=x/\x<=9223372036854775807) :
  Calls Tryz.prog 7 #[.agg #[.int .i64 kd,.int .i64 d],va] w fun r w'=>r=.returned (.bool true)/\aa [] w w':=by
 have kc:=fun W=>Im kd d W;have HR:=χ (fun (i:Nat) (l:List Int) (hi:Z[i]?=some l) W (hW:aa [] w W)=>(h.upd hW));obtain ⟨a,cap,rfl,hcap,hcap2⟩:=h.shape;have HZ:=χ (ψ h hb);clear h hb;generalize hN:Z.length=N at *;have HN:=χ hN;clear hN
 go_enter Tryz.func7,Tryz.ntmps7
 go_wp2_with (first|((go_at_call 15;(with_reducible refine (Ew _).mono ?_));rintro e w1 ⟨rfl,hu1⟩;(have q10:w1.cell? ⟨w.heap.size,0,none⟩=some (.int .i64 kd):=hu1.was γ);(have q11:w1.cell? ⟨w.heap.size,1,none⟩=some (.int .i64 d):=hu1.was γ);(have hw1:aa [] w w1:=aa.trans β hu1))|fail)
 have HW:=χ hw1
 by_cases hbig:N > 100
 ·have XW:(N:Int) > 100:=ω
  go_loopw [5,6,8,16] (fun v5 v6 v8 v16 wr=>∃ (i:Nat) (z:Int) (b:Bool),i<=N/\v16=.int .i64 (i:Int)/\v5=.int .i64 z/\v6=.bool b/\aa [] w1 wr) (fun _ _ _ v16 _=>N-(intOf v16).toNat)
  case atStart=>exact ⟨0,0,true,Nat.zero_le _,rfl,rfl,rfl,aa.refl _ _⟩
  case round=>
   obtain ⟨i,z,b,hi,rfl,rfl,rfl,hu⟩:=hrel;rename World=>wr
   by_cases FX:i<N
   ·have Dg:(i:Int)<(N:Int):=ω;have TE:decide ((i:Int)<(N:Int))=true:=ζ;have hwi:IntKind.i64.wrap ((i:Int)+1)=(i:Int)+1:=Μ _ ω;have hx:Z[i]?=some (Z.getD i []):=by simp [φ,HN.out,FX]
    obtain ⟨g,off,ax,cx,rfl,hg,hcl,_,_,hs⟩:=HZ.out.1.at hx;have hc:=(hw1.trans hu).was hcl;have kr:=fun W (hW:aa [] w W)=>A9 W _ _ (hs.fresh hW (fun g hg=>Α hg));have HU:=χ hu;clear hx hs hcl hu;generalize dw (Z.getD i [])=rb at *;generalize (Z.getD i []).length=ln at *;cases b with
    | true=>
     go_wp2_with (first|((go_at_call 24;(with_reducible refine (kr _ (HW.out.trans (by have:=HU.out;exact β))).mono ?_));rintro e w2 ⟨rfl,hu2⟩)|fail)
     go_roundw
     case rel=>exact ⟨i+1,_,_,FX,by go_num,rfl,rfl,HU.out.trans ν⟩
     case measure=>simp [intOf];omega
    | false=>
     go_wp2
     go_roundw
     case rel=>exact ⟨i+1,_,_,FX,by go_num,rfl,rfl,HU.out⟩
     case measure=>simp [intOf];omega
   ·obtain rfl:i=N:=ω;have Dg:¬ (i:Int)<(i:Int):=ω;have TE:decide ((i:Int)<(i:Int))=false:=σ;have hU:=χ (hw1.trans hu);clear hu
    by_cases hz:z > 100
    ·go_wp2;go_ret;exact ⟨rfl,hU.out⟩
    ·have hzD:decide (z > 100)=false:=by simpa using hz
     go_wp2;go_ret;exact ⟨rfl,hU.out⟩
 ·have XW:¬ (N:Int) > 100:=ω;have hbD:decide ((N:Int) > 100)=false:=ζ
  go_loopw [5,6,8,16] (fun v5 v6 v8 v16 wr=>∃ (i:Nat),i<=N/\v16=.int .i64 (i:Int)/\v5=.int .i64 (eZ (Z.take i):Int)/\v6=.bool (!(Z.take i).any (fun l=>!dw l))/\aa [] w1 wr) (fun _ _ _ v16 _=>N-(intOf v16).toNat)
  case atStart=>exact ⟨0,Nat.zero_le _,rfl,by simp [eZ],σ,aa.refl _ _⟩
  case round=>
   obtain ⟨i,hi,rfl,rfl,rfl,hu⟩:=hrel;rename World=>wr
   by_cases FX:i<N
   ·have Dg:(i:Int)<(N:Int):=ω;have TE:decide ((i:Int)<(N:Int))=true:=ζ;have hwi:IntKind.i64.wrap ((i:Int)+1)=(i:Int)+1:=Μ _ ω;have hx:Z[i]?=some (Z.getD i []):=by simp [φ,HN.out,FX]
    obtain ⟨g,off,ax,cx,rfl,hg,hcl,_,_,hs⟩:=HZ.out.1.at hx;have hc:=(hw1.trans hu).was hcl;have kr:=fun W (hW:aa [] w W)=>A9 W _ _ (hs.fresh hW (fun g hg=>Α hg));have hit:=EE hx;have hil:=Be (Z.take i);rw [ϑ] at hil;have ZE:(Z.take (i+1)).any (fun l=>!dw l)=((Z.take i).any (fun l=>!dw l) || !dw (Z.getD i [])):=by
     rw [ϐ,hx,List.any_append];simp
    have hwz:IntKind.i64.wrap ((eZ (Z.take i):Int)+min ((Z.getD i []).length:Int) 200)=(eZ (Z.take i):Int)+min ((Z.getD i []).length:Int) 200:=Μ _ ω;have HU:=χ (ψ hu (ψ hit ZE));clear hx hs hcl hu hit ZE hil;generalize dw (Z.getD i [])=rb at *;generalize (Z.getD i []).length=ln at *;generalize eZ (Z.take i)=z at *;generalize (Z.take i).any (fun l=>!dw l)=b at *;cases b with
    | false=>
     go_wp2_with (first|((go_at_call 24;(with_reducible refine (kr _ (HW.out.trans (by have:=HU.out.1;exact β))).mono ?_));rintro e w2 ⟨rfl,hu2⟩)|fail)
     go_roundw
     case rel=>exact ⟨i+1,FX,by go_num,by rw [HU.out.2.1];first|rfl|(congr 1;omega),by rw [HU.out.2.2];simp,HU.out.1.trans ν⟩
     case measure=>simp [intOf];omega
    | true=>
     go_wp2
     go_roundw
     case rel=>exact ⟨i+1,FX,by go_num,by rw [HU.out.2.1];first|rfl|(congr 1;omega),by rw [HU.out.2.2];simp,HU.out.1⟩
     case measure=>simp [intOf];omega
   ·obtain rfl:i=N:=ω;have Dg:¬ (i:Int)<(i:Int):=ω;have TE:decide ((i:Int)<(i:Int))=false:=σ;have Bc:Z.take i=Z:=List.take_of_length_le (by rw [HN.out];exact Θ _);rw [Bc];have hU:=χ (hw1.trans hu);have q20:=hu.was q10;have q21:=hu.was q11;clear hu Bc
    by_cases hz:eZ Z > 100
    ·have hzI:(eZ Z:Int) > 100:=ω;generalize eZ Z=z at *;go_wp2;go_ret;exact ⟨rfl,hU.out⟩
    ·have hzI:¬ (eZ Z:Int) > 100:=ω;have hzD:decide ((eZ Z:Int) > 100)=false:=ζ;have htot:=xZ Z ω;have hT:bJ Z<=100:=ω;have Us:=fun W (hW:aa [] w W)=>HZ.out.1.upd hW;have hkb:∀i,i<Z.length->(Z.getD i []).length<=1000000000000:=fun i hi=>by have h1:=EG Z i hi;unfold zl at h1;omega
     have hbb:=HZ.out.2;have hZl:Z.length<=65536:=by rw [HN.out];omega
     clear htot;generalize eZ Z=z at *
     by_cases hc:rV kd d=0
     ·obtain ⟨K,ko⟩:=K6 kd d (bJ Z) hc ω;rw [hc] at kc;cases hr:Z.any (fun l=>!dw l) with
      | true=>
       have kM:=fun W (hW:aa [] w W)=>KU (K:=K) kd d _ Z W (Us W hW) hkb hc ω hZl hr ko;clear Us hkb hbb hc hr ko HZ HN
       go_wp2_with (first
        | ((go_at_call 23;(with_reducible refine (kM _ (hU.out.trans β)).mono ?_));rintro e w3 ⟨rfl,hu3⟩;(have q30:=hu3.was q20);(have q31:=hu3.was q21))
        | ((go_at_call 18;(with_reducible refine (kc _).mono ?_));rintro e w4 ⟨rfl,jN⟩)
        | fail)
       go_ret;exact ⟨rfl,(hU.out.trans hu3).trans jN⟩
      | false=>
       have kM:=fun W (hW:aa [] w W)=>Ld (K:=K) kd d _ Z W (Us W hW) hbb hc ω hZl hr ko;have kf:=fun W (hW:aa [] w W)=>BR W _ Z (Us W hW) ω;clear Us hkb hbb hc hr ko HZ HN;generalize bJ Z=T at *;generalize mf Z=M at *
       go_wp2_with (first
        | ((go_at_call 23;(with_reducible refine (kM _ (hU.out.trans β)).mono ?_));rintro e w3 ⟨ao,co,rfl,ho3,hu3⟩;(have q30:=hu3.was q20);(have q31:=hu3.was q21))
        | ((go_at_call 18;(with_reducible refine (kc _).mono ?_));rintro e w4 ⟨rfl,jN⟩)
        | ((go_at_call 26;(with_reducible refine (kf _ ((hU.out.trans hu3).trans jN)).mono ?_));rintro e w5 ⟨ar,cr,rfl,SK,dF⟩)
        | ((go_at_call 25;(with_reducible refine (QM _ _ _ _ _ _ M ((Sg.fE ho3).upd (jN.trans dF)) (Sg.fE SK) ω).mono ?_));rintro e w6 ⟨rfl,fq⟩)
        | fail)
       go_ret;exact ⟨rfl,(((hU.out.trans hu3).trans jN).trans dF).trans fq⟩
     ·have kM:=fun W (hW:aa [] w W)=>KQ kd d _ Z W (Us W hW) hkb hc;have hcb:(rV kd d != 0)=true:=by simpa using hc
      clear Us hkb hbb HZ HN;generalize rV kd d=v at *
      go_wp2_with (first
       | ((go_at_call 23;(with_reducible refine (kM _ (hU.out.trans β)).mono ?_));rintro e w3 ⟨rfl,hu3⟩;(have q30:=hu3.was q20);(have q31:=hu3.was q21))
       | ((go_at_call 18;(with_reducible refine (kc _).mono ?_));rintro e w4 ⟨rfl,jN⟩)
       | fail)
      go_ret;exact ⟨rfl,(hU.out.trans hu3).trans jN⟩
def RZ (w:World) (v:Value) (Z:List (List Int)):Prop:=qz w v Z/\∀l,l∈Z->∀x,x∈l->-9223372036854775808<=x/\x<=9223372036854775807
set_option maxRecDepth 100000 in
open Go.ChangeShapes Go.ChangeAt Go.WideShapes in
theorem zJ {H:Type} {enc:TypeId×Value->H} {W:World} {v:Value} {d:DataW H} {p:List MemPlace} {base:Nat} {sp:Nat->Bool}
  (ho:Value.okWide Tryz.prog W .any base 45 v) (h:DataW.Trod enc Tryz.prog W 0 sp true 45 v d p):∃Z,RZ W v Z:=by
 have hc:Tryz.prog.cellsOf 24=1:=by kernel_rfl
 have hc1:Tryz.prog.cellsOf 2=1:=by kernel_rfl
 obtain ⟨a,len,cap,rfl⟩:=okWide_slice Tryz.underlying45 ho;obtain ⟨fuel,hf⟩:=h;rcases Go.Deep.open_slice1 Tryz.underlying45 hc hf with ⟨hcs,_⟩|⟨y,l,c,m,n,V,D,Pl,hcs,_,hl,hm,hmm,_,hx⟩
 ·simp [Value.cells] at hcs;obtain ⟨rfl,rfl,rfl⟩:=hcs;exact ⟨[],⟨none,0,rfl,σ,ω,fun x l h=>by simp at h⟩,fun l h=>by cases h⟩
 ·simp [Value.cells] at hcs;obtain ⟨rfl,rfl,rfl⟩:=hcs;have hlm:len<=m:=by rw [hmm];split<;>omega
  have key:∀i,∃zs:List Int,i<len->fM W [] (V i) zs/\∀x,x∈zs->-9223372036854775808<=x/\x<=9223372036854775807:=fun i=>by
   by_cases hi:i<len
   ·obtain ⟨_,h2⟩:=hx i ω;obtain ⟨zs,h3,h4⟩:=EX Tryz.underlying24 Tryz.underlying2 hc1 h2;exact ⟨zs,fun _=>⟨h3,h4⟩⟩
   ·exact ⟨[],fun h=>absurd h hi⟩
  obtain ⟨f,hfk⟩:=Classical.axiomOfChoice key;have hlen:((List.range len).map f).length=len:=σ;refine ⟨(List.range len).map f,⟨some y,cap,by rw [hlen],by rw [hlen];omega,by unfold maxLen at hm;omega,fun x l hl=>?_⟩,fun l hl=>?_⟩
  ·have hxl:x<len:=by have:=(List.getElem?_eq_some_iff.1 hl).1;simpa using this
   have hlf:f x=l:=by simpa [hxl] using hl
   obtain ⟨hcell,_⟩:=hx x ω;obtain ⟨b,off,spot⟩:=y;have hspot:spot=none:=by have:=World.cell?_spot (hx 0 ω).1;simpa [Addr.add] using this
   subst hspot;rw [Addr.add_lit] at hcell;exact ⟨b,off,V x,rfl,Ε W _ hcell,hcell,by rw [←hlf];exact (hfk x hxl).1⟩
  ·obtain ⟨i,hi,rfl⟩:=List.mem_map.1 hl;exact (hfk i (List.mem_range.1 hi)).2
end Go.Proofs.YtklibcncmbofpaaGreat
