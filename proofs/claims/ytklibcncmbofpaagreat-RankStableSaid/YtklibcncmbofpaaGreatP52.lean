/-
  Lemmas for RankSorts: RkR2, RkM, RkW. Conditions: those of each lemma.
-/
import Derived.Test.YtklibcncmbofpaaGreatP51
set_option maxHeartbeats 8000000
set_option maxRecDepth 10000
set_option linter.unusedVariables false
set_option linter.unusedSimpArgs false
namespace Go.Proofs.YtklibcncmbofpaaGreat
open Go Go.RowKit
theorem FX {W:World} {base:Nat} {a:Option Addr} {n c:Nat} {xs:List Int} (h:W.ownsRow base 3 1 (.slice a n c) n (aH xs)) {j:Nat} {y:Int} (hj:xs[j]?=some y):∃g,a=some ⟨g,0,none⟩∧base≤g∧g<W.heap.size∧W.cell? ⟨g,j,none⟩=some (.int .i64 y):=by
 have hl:=h.1;rw [dX] at hl;have hjl:j<xs.length:=(List.getElem?_eq_some_iff.1 hj).1;obtain ⟨g,cap,e,hb,_⟩:=bY h ω
 injection e with e1 e2 e3
 subst e1;have hlt:=h.lt g rfl;refine ⟨g,rfl,hb,hlt.2,?_⟩;rw [h.cellAt j ω,kS hjl,φ,hj];rfl
theorem FK {l:List Nat} {j x:Nat} (h:l[j]?=some x):(vw l)[j]?=some (x:Int):=by unfold vw;simp [h]
theorem uP (vk:Value) (ks:List Int) (w:World) (hS:fI w [] vk ks) (hn:ks.length≤65536) :
  Calls Tryz.prog 19 #[vk] w fun e w'=>∃ao co,e=.returned (.slice ao ks.length co)∧w'.ownsRow w.heap.size 3 1 (.slice ao ks.length co) ks.length (aH (vw (aU (fun i=>ks.getD i 0) ks.length)))∧aa [] w w':=by
 obtain ⟨a,cap,rfl,hcap1,hcap2,hcell⟩:=hS;have hrow:∀j,j<ks.length→∃g off,a=some ⟨g,off,none⟩∧g<w.heap.size∧w.cell? ⟨g,off+j,none⟩=some (.int .i64 (ks.getD j 0)):=fun j hj=>by
  obtain ⟨g,off,h1,h2,_,h3⟩:=hcell j ks[j] (List.getElem?_eq_getElem hj);exact ⟨g,off,h1,h2,by rw [h3,φ,List.getElem?_eq_getElem hj];rfl⟩
 clear hcell;have HR:Hid (∀j,j<ks.length→∃g off,a=some ⟨g,off,none⟩∧g<w.heap.size∧w.cell? ⟨g,off+j,none⟩=some (.int .i64 ((fun i=>ks.getD i 0) j))):=hrow
 clear hrow;generalize (fun i=>ks.getD i 0)=kf at *
 generalize ks.length=n at *
 go_enter Tryz.func19,Tryz.ntmps19
 go_wp2;have hO0:=jE w (aH []) 3 w.heap.size 1 0 rfl (Nat.le_refl _) μ;refine gB (fun W=>W.ownsRow w.heap.size 3 1 (.slice (some ⟨w.heap.size,0,none⟩) 0 0) 0 (aH (vw (aU kf 0)))∧aa [] w W) ⟨hO0,β⟩ ?_
 rintro W ⟨hO,hW⟩;have H0:=χ (ψ hO hW);clear hO hW hO0
 go_loopw [3,4,5,6,7,9,13] (fun v3 v4 v5 v6 v7 v9 v13 wr=>∃ (i:Nat) (a3:Option Addr) (c3:Nat),i≤n∧v13=.int .i64 (i:Int)∧v3=.slice a3 i c3∧wr.ownsRow w.heap.size 3 1 (.slice a3 i c3) i (aH (vw (aU kf i)))∧aa [] w wr) (fun _ _ _ _ _ _ v13 _=>n-(intOf v13).toNat)
 case atStart=>exact ⟨0,_,_,Nat.zero_le _,rfl,rfl,H0.out.1,H0.out.2⟩
 case round=>
  obtain ⟨i,a3,c3,hi,rfl,rfl,ho,hu⟩:=hrel;rename World=>wr
  by_cases hin:i<n
  ·have hiI:decide ((i:Int)<(n:Int))=true:=ζ;have hiI2:(i:Int)<(n:Int):=ω;have hbase:w.heap.size≤wr.heap.size:=hu.size;obtain ⟨g,off,rfl,hg,hc⟩:=HR.out i hin;have hc1:=hu.was hc;have HO:=χ (ψ ho hu);clear ho hu hc;obtain ⟨S,hS⟩:∃S,aU kf i=S:=⟨_,rfl⟩
   have hSl:S.length=i:=by rw [←hS,jq]
   have hSm:∀x,x∈S→x<i:=fun x hx=>by rw [←hS] at hx;exact iU.1 hx
   have HS:=χ (ψ hS (ψ hSl hSm));clear hS hSl hSm;obtain ⟨ki,hki⟩:∃ki,kf i=ki:=⟨_,rfl⟩
   rw [hki] at hc1;have HK:=χ hki;clear hki;go_wp2;have hO1:=jE wr (aH []) 3 wr.heap.size 1 0 rfl (Nat.le_refl _) μ;refine gB (fun W=>W.ownsRow wr.heap.size 3 1 (.slice (some ⟨wr.heap.size,0,none⟩) 0 0) 0 (aH (vw []))∧aa [] wr W) ⟨hO1,β⟩ ?_
   rintro W1 ⟨hO1',hW1⟩;have H1:=χ (ψ hO1' hW1);clear hO1 hO1' hW1
   go_loopw [6,7,9,21] (fun v6 v7 v9 v21 wq=>∃ (m:Nat) (pb:Bool) (nx:List Nat) (a6:Option Addr) (c6:Nat),m≤i∧v21=.int .i64 (m:Int)∧v7=.bool pb∧v6=.slice a6 nx.length c6∧wq.ownsRow wr.heap.size 3 1 (.slice a6 nx.length c6) nx.length (aH (vw nx))∧mi kf i m S pb nx∧aa [] wr wq) (fun _ _ _ v21 _=>i-(intOf v21).toNat)
   case atStart=>exact ⟨0,false,[],_,_,Nat.zero_le _,rfl,rfl,rfl,H1.out.1,Or.inl ⟨rfl,rfl,rfl⟩,H1.out.2⟩
   case round=>
    obtain ⟨m,pb,nx,a6,c6,hm,rfl,rfl,rfl,ho6,hI,hu6⟩:=hrel;rename World=>wq
    obtain ⟨ho,hu⟩:=HO.out;obtain ⟨hSe,hSl,hSm⟩:=HS.out;have hbq:wr.heap.size≤wq.heap.size:=hu6.size;have hnl:nx.length≤65537:=by rcases hI with ⟨_,h,_⟩|⟨_,h,_⟩<;>omega
    by_cases hmi:m<i
    ·have hmI:decide ((m:Int)<(i:Int))=true:=ζ;have hmI2:(m:Int)<(i:Int):=ω;obtain ⟨x,hx⟩:∃x,S[m]?=some x:=⟨S[m],List.getElem?_eq_getElem ω⟩
     have hxi:x<i:=hSm x (List.mem_of_getElem? hx);rw [hSe] at ho;obtain ⟨g3,rfl,hg3,hg3l,hc3⟩:=FX ho (FK hx);have hc3q:=hu6.was hc3;obtain ⟨g',off',e',hg',hc'⟩:=HR.out x ω;cases e';have hcx:=(hu.trans hu6).was hc';have hxI:(x:Int)<(n:Int):=ω;have HI:=χ (ψ hI (ψ hu6 (ψ hx hm)));have hke:=HK.out;obtain ⟨kx,hkx⟩:∃kx,kf x=kx:=⟨_,rfl⟩
     rw [hkx] at hcx;have HKX:=χ hkx;clear hI hu6 hx ho hu hSe hSm hc3 hc' hkx hke hSl;cases pb with
     | false=>
      by_cases hk:ki<kx
      ·have hkb:decide (kx > ki)=true:=by simpa using hk
       have HKL:=χ hk;clear hk
       go_wp2_with (first
        | ((at_builtin;refine aC rfl _ _ 26 rfl wr.heap.size 3 (.int .i64 0) 1 8 Tryz.underlying26 cK rfl δ _ _ _ rfl (ho6) [.int .i64 (i:Int)] rfl (by simp [Value.oneCell']) (by first|rfl|(rw [World.size_alloc];rfl)) μ ω (ω) ?_;intro v2 w2 ho7 hu7 hsep7);obtain ⟨a7,c7,rfl,hc7⟩:=aR ho7;(have hs7:wr.heap.size≤w2.heap.size:=by have:=hu7.size;omega);(have hx7:∀A:Addr,∀v,A.block<wr.heap.size→wq.cell? A=some v→w2.cell? A=some v:=fun A v hA hv=>hu7.kept hv (fun hm=>by have:=(ho6.lt A.block (Option.mem_toList.1 hm)).1;omega)))
        | ((at_builtin;refine aC rfl _ _ 26 rfl wr.heap.size 3 (.int .i64 0) 1 8 Tryz.underlying26 cK rfl δ _ _ _ rfl (ho7) [.int .i64 (x:Int)] rfl (by simp [Value.oneCell']) (by first|rfl|(rw [World.size_alloc];rfl)) μ ω (ω) ?_;intro v3 w3 ho8 hu8 hsep8);obtain ⟨a8,c8,rfl,hc8⟩:=aR ho8)
        | fail)
       go_roundw
       case rel=>
        obtain ⟨hI,hu6,hx,hm⟩:=HI.out;have hlen:(nx++[i]++[x]).length=nx.length+1+1:=σ;refine ⟨m+1,true,nx++[i]++[x],a8,c8,ω,by go_num,rfl,by rw [hlen],?_,hI.put hx (by rw [HK.out,HKX.out];exact HKL.out),(hu6.own ho6 (Nat.le_refl _) hu7).own ho7 (Nat.le_refl _) hu8⟩
        rw [hlen,jo,jo,aS,aS];exact ho8
       case measure=>simp [intOf];omega
      ·have hkb:decide (kx > ki)=false:=by simpa using hk
       have HKL:=χ hk;clear hk
       go_wp2_with (first
        | ((at_builtin;refine aC rfl _ _ 26 rfl wr.heap.size 3 (.int .i64 0) 1 8 Tryz.underlying26 cK rfl δ _ _ _ rfl (ho6) [.int .i64 (x:Int)] rfl (by simp [Value.oneCell']) (by first|rfl|(rw [World.size_alloc];rfl)) μ ω (ω) ?_;intro v3 w3 ho8 hu8 hsep8);obtain ⟨a8,c8,rfl,hc8⟩:=aR ho8)
        | fail)
       go_roundw
       case rel=>
        obtain ⟨hI,hu6,hx,hm⟩:=HI.out;have hlen:(nx++[x]).length=nx.length+1:=σ;refine ⟨m+1,false,nx++[x],a8,c8,ω,by go_num,rfl,by rw [hlen],?_,hI.skip hx (by rw [HK.out,HKX.out];exact HKL.out),hu6.own ho6 (Nat.le_refl _) hu8⟩
        rw [hlen,jo,aS];exact ho8
       case measure=>simp [intOf];omega
     | true=>
      go_wp2_with (first
       | ((at_builtin;refine aC rfl _ _ 26 rfl wr.heap.size 3 (.int .i64 0) 1 8 Tryz.underlying26 cK rfl δ _ _ _ rfl (ho6) [.int .i64 (x:Int)] rfl (by simp [Value.oneCell']) (by first|rfl|(rw [World.size_alloc];rfl)) μ ω (ω) ?_;intro v3 w3 ho8 hu8 hsep8);obtain ⟨a8,c8,rfl,hc8⟩:=aR ho8)
       | fail)
      go_roundw
      case rel=>
       obtain ⟨hI,hu6,hx,hm⟩:=HI.out;have hlen:(nx++[x]).length=nx.length+1:=σ;refine ⟨m+1,true,nx++[x],a8,c8,ω,by go_num,rfl,by rw [hlen],?_,hI.more hx,hu6.own ho6 (Nat.le_refl _) hu8⟩
       rw [hlen,jo,aS];exact ho8
      case measure=>simp [intOf];omega
    ·obtain rfl:m=i:=ω;have hmI:decide ((m:Int)<(m:Int))=false:=σ;have HI:=χ (ψ hI (ψ hu6 (ψ hSe hSl)));have hnx:nx.length=(if pb then m+1 else m):=by rcases hI with ⟨h,h1,_⟩|⟨h,h1,_⟩<;>simp [h,h1]
     have HNX:=χ hnx;clear hI hu6 hSe hSl hSm ho hu hnx;cases pb with
     | false=>
      go_wp2_with (first
       | ((at_builtin;refine aC rfl _ _ 26 rfl wr.heap.size 3 (.int .i64 0) 1 8 Tryz.underlying26 cK rfl δ _ _ _ rfl (ho6) [.int .i64 (m:Int)] rfl (by simp [Value.oneCell']) (by first|rfl|(rw [World.size_alloc];rfl)) μ ω (ω) ?_;intro v3 w3 ho8 hu8 hsep8);obtain ⟨a8,c8,rfl,hc8⟩:=aR ho8)
       | fail)
      go_roundw
      case rel=>
       obtain ⟨hI,hu6,hSe,hSl⟩:=HI.out;have hnx:nx.length=m:=HNX.out;have e2:aU kf (m+1)=nx++[m]:=by
        show nY kf m (aU kf m)=_
        rw [hSe];subst hSl;exact hI.PY
       refine ⟨m+1,a8,c8,ω,by go_num,by rw [hnx],?_,HO.out.2.trans (hu6.own ho6 (Nat.le_refl _) hu8)⟩
       rw [e2,jo,aS];rw [hnx] at ho8;exact iA ho8 hbase
      case measure=>simp [intOf];omega
     | true=>
      go_wp2
      go_roundw
      case rel=>
       obtain ⟨hI,hu6,hSe,hSl⟩:=HI.out;have hnx:nx.length=m+1:=HNX.out;have e2:aU kf (m+1)=nx:=by
        show nY kf m (aU kf m)=_
        rw [hSe];subst hSl;exact hI.PU
       refine ⟨m+1,a6,c6,ω,by go_num,by rw [hnx],?_,HO.out.2.trans hu6⟩
       rw [e2];rw [hnx] at ho6;exact iA ho6 hbase
      case measure=>simp [intOf];omega
  ·obtain rfl:i=n:=ω;have hiI:decide ((i:Int)<(i:Int))=false:=σ;have HO:=χ (ψ ho hu);clear ho hu;go_wp2;go_ret;exact ⟨a3,c3,rfl,HO.out.1,HO.out.2⟩
theorem xz {kf kg:Nat→Int} {i:Nat} (hi:kf i=kg i):∀ {l:List Nat},(∀x,x∈l→kf x=kg x)→nY kf i l=nY kg i l
 | [],_=>rfl
 | x::l,h=>by
  unfold nY;rw [hi,h x σ,xz hi (fun y hy=>h y (List.mem_cons_of_mem _ hy))]
theorem uM {kf kg:Nat→Int}:∀ {n:Nat},(∀x,x<n→kf x=kg x)→aU kf n=aU kg n
 | 0,_=>rfl
 | n+1,h=>by
  unfold aU;rw [←uM (fun x hx=>h x ω)]
  exact xz (h n ω) (fun x hx=>h x (by have:=iU.1 hx;omega))
def CQ (kf:Nat→Int) (i:Nat):Int:=kf ((aU kf (i+1)).getD (i / 2) 0)
def lV (kf:Nat→Int) (n:Nat):List Int:=(List.range n).map (CQ kf)
theorem uI (kf:Nat→Int) (n:Nat):lV kf (n+1)=lV kf n++[CQ kf n]:=by unfold lV;rw [List.range_succ,List.map_append];rfl
theorem zW:(Tryz.prog.info? 2).map (fun i=>(i.zero,i.size,i.bytes))=some (some (.int .i64 0),1,8):=by kernel_rfl
theorem DC (vk:Value) (ks:List Int) (w:World) (hS:fI w [] vk ks) (hn:ks.length≤65536) :
  Calls Tryz.prog 22 #[vk] w fun e w'=>∃ao co,e=.returned (.slice ao ks.length co)∧w'.ownsRow w.heap.size 2 1 (.slice ao ks.length co) ks.length (aH (lV (fun i=>ks.getD i 0) ks.length))∧aa [] w w':=by
 have hS0:=hS;obtain ⟨a,cap,rfl,hcap1,hcap2,hcell⟩:=hS;have hrow:∀j,j<ks.length→∃g off,a=some ⟨g,off,none⟩∧g<w.heap.size∧w.cell? ⟨g,off+j,none⟩=some (.int .i64 (ks.getD j 0)):=fun j hj=>by
  obtain ⟨g,off,h1,h2,_,h3⟩:=hcell j ks[j] (List.getElem?_eq_getElem hj);exact ⟨g,off,h1,h2,by rw [h3,φ,List.getElem?_eq_getElem hj];rfl⟩
 have kso:∀ (W:World) (i:Nat),aa [] w W→i<ks.length→Calls Tryz.prog 19 #[.slice a (i+1) cap] W fun e w'=>∃ao co,e=.returned (.slice ao (i+1) co)∧w'.ownsRow W.heap.size 3 1 (.slice ao (i+1) co) (i+1) (aH (vw (aU (fun i=>ks.getD i 0) (i+1))))∧aa [] W w':=fun W i hW hi=>by
  have hl:(ks.take (i+1)).length=i+1:=by rw [List.length_take];omega
  have h1:fI W [] (.slice a (i+1) cap) (ks.take (i+1)):=by
   obtain ⟨a',cap',e,_,_,hc⟩:=hS0.fresh hW (fun g hg=>Or.inl hg)
   injection e with e1 e2 e3
   subst e1 e3;exact ⟨a,cap,by rw [hl],ω,hcap2,fun j u hj=>hc j u (by rw [List.getElem?_take] at hj;split at hj;exact hj;cases hj)⟩
  have h2:=uP _ _ W h1 ω;rw [hl] at h2;rw [uM (kg:=fun i=>ks.getD i 0) (fun x hx=>by simp only [φ,List.getElem?_take];rw [if_pos hx])] at h2
  exact h2
 clear hcell hS0;have HR:Hid ((∀j,j<ks.length→∃g off,a=some ⟨g,off,none⟩∧g<w.heap.size∧w.cell? ⟨g,off+j,none⟩=some (.int .i64 ((fun i=>ks.getD i 0) j)))∧∀ (W:World) (i:Nat),aa [] w W→i<ks.length→Calls Tryz.prog 19 #[.slice a (i+1) cap] W fun e w'=>∃ao co,e=.returned (.slice ao (i+1) co)∧w'.ownsRow W.heap.size 3 1 (.slice ao (i+1) co) (i+1) (aH (vw (aU (fun i=>ks.getD i 0) (i+1))))∧aa [] W w'):=⟨hrow,kso⟩
 clear hrow kso;generalize (fun i=>ks.getD i 0)=kf at *
 generalize ks.length=n at *
 go_enter Tryz.func22,Tryz.ntmps22
 go_wp2;have hO0:=jE w (aH []) 2 w.heap.size 1 0 rfl (Nat.le_refl _) μ;refine gB (fun W=>W.ownsRow w.heap.size 2 1 (.slice (some ⟨w.heap.size,0,none⟩) 0 0) 0 (aH (lV kf 0))∧aa [] w W) ⟨hO0,β⟩ ?_
 rintro W ⟨hO,hW⟩;have H0:=χ (ψ hO hW);clear hO hW hO0
 go_loopw [3,4,5,9] (fun v3 v4 v5 v9 wr=>∃ (i:Nat) (a3:Option Addr) (c3:Nat),i≤n∧v9=.int .i64 (i:Int)∧v3=.slice a3 i c3∧wr.ownsRow w.heap.size 2 1 (.slice a3 i c3) i (aH (lV kf i))∧aa [] w wr) (fun _ _ _ v9 _=>n-(intOf v9).toNat)
 case atStart=>exact ⟨0,_,_,Nat.zero_le _,rfl,rfl,H0.out.1,H0.out.2⟩
 case round=>
  obtain ⟨i,a3,c3,hi,rfl,rfl,ho,hu⟩:=hrel;rename World=>wr
  by_cases hin:i<n
  ·have hiI:decide ((i:Int)<(n:Int))=true:=ζ;have hiI2:(i:Int)<(n:Int):=ω;have hwi:IntKind.i64.wrap ((i:Int)+1)=(i:Int)+1:=IntWalk.i64_in _ ω;have hbase:w.heap.size≤wr.heap.size:=hu.size;have hil:i / 2<(aU kf (i+1)).length:=by rw [jq];omega
   obtain ⟨x,hx⟩:∃x,(aU kf (i+1))[i / 2]?=some x:=⟨_,List.getElem?_eq_getElem hil⟩
   have hxn:x<n:=by have:=iU.1 (List.mem_of_getElem? hx);omega
   have ev:CQ kf i=kf x:=by unfold CQ;rw [φ,hx];rfl
   obtain ⟨g,off,ea,hg,hc⟩:=HR.out.1 x hxn;have ks1:=HR.out.2 wr i hu hin;have hcx:=hu.was hc;subst ea;have hxI:(x:Int)<(n:Int):=ω;have HQ:=χ (ψ hx (ψ ev hu));clear hx ev hu hc hil;generalize kf x=kx at *
   have hcap3:i+1≤cap:=ω
   go_wp2_with (first
    | ((go_at_call 19;(with_reducible refine (ks1).mono ?_));rintro e w2 ⟨a5,c5,rfl,ho5,hu5⟩;obtain ⟨g5,rfl,_,_,hc5⟩:=FX ho5 (FK HQ.out.1);(have hcx2:=hu5.was hcx);(have ho3:=ay ho hu5 σ);(have hs5:=hu5.size))
    | (at_builtin;refine aC rfl _ _ 24 rfl w.heap.size 2 (.int .i64 0) 1 8 Tryz.underlying24 zW rfl δ _ _ _ rfl ho3 [.int .i64 kx] rfl (by simp [Value.oneCell']) (by first|rfl|(rw [World.size_alloc];rfl)) μ ω ω ?_;intro v2 w3 ho6 hu6 hsep6;obtain ⟨a6,c6,rfl,hc6⟩:=aR ho6)
    | fail)
   go_roundw
   case rel=>
    obtain ⟨hx,ev,hu⟩:=HQ.out;refine ⟨i+1,a6,c6,ω,by go_num,rfl,?_,(hu.trans hu5).own ho3 (Nat.le_refl _) hu6⟩
    rw [uI,ev,aS];exact ho6
   case measure=>simp [intOf];omega
  ·obtain rfl:i=n:=ω;have hiI:decide ((i:Int)<(i:Int))=false:=σ;have HO:=χ (ψ ho hu);clear ho hu;go_wp2;go_ret;exact ⟨a3,c3,rfl,HO.out.1,HO.out.2⟩
def tn (x:Int):Int:=-1-x
theorem Jm (x:Int):tn (tn x)=x:=by unfold tn;omega
theorem jV.congr {P Q K P' Q' K':List Int} {c:Nat} (h:jV P Q K c) (hp:P'.Perm P) (hq:Q'.Perm Q) (hk:K'.Perm K):jV P' Q' K' c:=
 ⟨((hp.append hq).trans h.perm).trans hk.symm,fun a ha b hb=>h.ord a (hp.mem_iff.1 ha) b (hq.mem_iff.1 hb),hp.length_eq.trans h.len⟩
theorem Bl:∀ (l:List (Nat×Bool)),(∀x,x<l.length→(l.getD x (0,false)).2=true)→Ad l=l.length
 | [],_=>rfl
 | q::r,h=>by
  rw [nE,Bl r (fun x hx=>by have:=h (x+1) (by simpa using hx);rwa [List.getD_cons_succ] at this)]
  have:=h 0 σ;rw [List.getD_cons_zero] at this;rw [if_pos this];rfl
structure FC (n:Nat) (R:AR) (A:NS) (q j:Nat):Prop where
 ok:R.Ok
 zF:A.Ok
 lA:A.cs.length=n
 lR:R.sl.length=n
 link:∀x:Nat,R.v x=bD A (x:Int)
 h1:aY A 1=true
 h2:aY A 2=true
 ms:R.most=4294967295
 gn:∀x,R.g x≤q
 fl:∀x,x<R.next→R.v x=true∨x∈R.wait
 ct:R.cnt=j
section
variable {n:Nat} {R:AR} {A:NS} {q j:Nat}
theorem FC.room (h:FC n R A q j) (hj:j<n):∃x R',jk R=some (x,R'):=by
 unfold jk;cases hp:mW R with
 | some p=>exact ⟨_,_,rfl⟩
 | none=>
  exfalso;unfold mW at hp;cases hw:R.wait.getLast? with
  | some y=>rw [hw] at hp;cases hp
  | none=>
   rw [hw] at hp;have hw0:R.wait=[]:=List.getLast?_eq_none_iff.1 hw;dsimp only at hp
   split at hp
   ·rename_i hn
    have hc:R.cnt=R.sl.length:=Bl _ (fun x hx=>by
     rcases h.fl x ω with h1|h1
     ·exact h1
     ·rw [hw0] at h1;cases h1)
    have:=h.ct;have:=h.lR;omega
   ·cases hp
theorem He {R':AR} {x:Nat} (ok:R.Ok) (hT:jk R=some (x,R')) (fl:∀x,x<R.next→R.v x=true∨x∈R.wait):∀y,y<R'.next→R'.v y=true∨y∈R'.wait:=by
 intro y hy;rw [wH ok hT];unfold jk at hT;unfold mW at hT;cases hw:R.wait.getLast? with
 | some z=>
  rw [hw] at hT;simp only [Option.map_some,Option.some.injEq,Prod.mk.injEq] at hT;obtain ⟨rfl,rfl⟩:=hT;have happ:R.wait=R.wait.dropLast++[z]:=by
   obtain ⟨l,hl'⟩:=List.getLast?_eq_some_iff.1 hw;rw [hl'];simp
  rcases fl y hy with h1|h1
  ·exact Or.inl (by rw [h1];rfl)
  ·rw [happ,List.mem_append] at h1;rcases h1 with h1|h1
   ·exact Or.inr h1
   ·simp at h1;exact Or.inl (by simp [h1])
 | none=>
  rw [hw] at hT;dsimp only at hT
  split at hT
  ·cases hT
  ·simp only [Option.map_some,Option.some.injEq,Prod.mk.injEq] at hT;obtain ⟨rfl,rfl⟩:=hT;have hy':y<R.next+1:=hy
   by_cases e:y=R.next
   ·exact Or.inl (by simp [e])
   ·rcases fl y ω with h1|h1
    ·exact Or.inl (by rw [h1];rfl)
    ·exact Or.inr h1
theorem FC.put (h:FC n R A q j) (hq:q+1≤4294967295) {g:Nat} (hg:aY A (g:Int)=true) {k:Int} (hk:-9223372036854775808≤k∧k≤9223372036854775807) {x:Nat} {R':AR} (hT:jk R=some (x,R')) :
  jy A (g:Int) (x:Int)=true∧FC n R' (aB A (g:Int) (x:Int) k ((q:Int)+1)) (q+1) (j+1):=by
 obtain ⟨t1,t2,t3,t4,t5,t6,t7⟩:=sO h.ok hT;have hBp:jy A (g:Int) (x:Int)=true:=by
  rw [cB];refine ⟨hg,(dK _ _).2 ⟨ω,by rw [h.lA];have:=h.lR;omega⟩,?_⟩
  rw [←h.link];exact t3
 have hh:∀i,aY (aB A (g:Int) (x:Int) k ((q:Int)+1)) i=aY A i:=fun i=>by unfold aB;rw [if_pos hBp];rfl
 refine ⟨hBp,t1,sG h.zF _ _ _ _ ⟨hk.1,hk.2,ω,ω⟩,by rw [sQ];exact h.lA,by rw [t5];simp [h.lR],fun y=>by rw [wH h.ok hT,Dv hBp,h.link],by rw [hh];exact h.h1,by rw [hh];exact h.h2,t6.trans h.ms,fun y=>?_,He h.ok hT h.fl,by rw [t7,h.ct]⟩
 have e:R'.g y=(R.put x (R.g x+1,true)).g y:=by
  show (R'.sl.getD y (0,false)).1=((R.sl.set x (R.g x+1,true)).getD y (0,false)).1
  rw [t5]
 rw [e,AR.qQ];have h1:=h.gn x;have h2:=h.gn y
 split
 ·show R.g x+1≤q+1;omega
 ·omega
theorem FC.give (h:FC n R A q (j+1)) (hq:q<4294967295) {g:Int} (hg:0<g) {m:Nat} (hm:bL A g=some m):R.v m=true∧bD A (m:Int)=true∧(A.c m).i=g∧FC n (fU R m) (aL A (m:Int)) q j:=by
 have hf:=(dM hg).1 hm;have hin:bD A (m:Int)=true:=(af _ _).2 ⟨hf.1,by rw [hf.2.1];exact hg⟩
 have hv:R.v m=true:=by rw [h.link];exact hin
 have hgo:=vK h.ok hv;have eg:∀z,(fU R m).g z=R.g z:=fun z=>by
  show (R.put m (R.g m,false)).g z=_
  rw [AR.qQ]
  split
  ·rename_i e;rw [e.1]
  ·rfl
 refine ⟨hv,hin,hf.2.1,hgo.1,wT h.zF _,by rw [dw];exact h.lA,by rw [tV];exact h.lR,fun y=>by rw [xO hv,Aj hin,h.link],by unfold aY;rw [fA];exact h.h1,by unfold aY;rw [fA];exact h.h2,h.ms,fun y=>by rw [eg];exact h.gn y,fun y hy=>?_,by have:=hgo.2;have:=h.ct;omega⟩
 rw [xO hv];have hw:(fU R m).wait=R.wait++[m]:=by
  show (if R.g m<R.most then R.wait++[m] else R.wait)=_
  rw [if_pos (by have:=h.gn m;rw [h.ms];omega)]
 rw [hw]
 by_cases e:y=m
 ·subst e;exact Or.inr σ
 ·rcases h.fl y hy with h1|h1
  ·exact Or.inl (by rw [h1];simp [e])
  ·exact Or.inr (by simp [h1])
theorem qY {A:NS} {g:Int} (hg:0<g) (h:il A g≠[]):∃m,bL A g=some m:=by
 cases hm:bL A g with
 | some m=>exact ⟨m,rfl⟩
 | none=>
  exfalso;apply h;have h0:=(iB hg).1 hm;unfold il;cases hs:gu A g with
  | nil=>rfl
  | cons x l=>
   have hx:=gZ.1 (show x∈gu A g by rw [hs];simp)
   have:=dG.2 ⟨x,hx.1,hx.2,hg⟩;omega
def IJ (A:NS) (K:List Int) (c:Nat):Prop:=jV ((il A 1).map tn) (il A 2) K c
theorem IJ.push {K:List Int} {c:Nat} (h:IJ A K c) (zF:A.Ok) {k s:Int} {x:Nat} (hB:jy A 1 (x:Int)=true) {A1 A2 A3:NS} (e1:A1=aB A 1 (x:Int) (tn k) s) {m:Nat} (hm:bL A1 1=some m) (hin:bD A1 (m:Int)=true) (e2:A2=aL A1 (m:Int)) (okA2:A2.Ok)
  {y:Nat} {s':Int} (hB2:jy A2 2 (y:Int)=true) (e3:A3=aB A2 2 (y:Int) (tn (A1.c m).k) s'):IJ A3 (k::K) c:=by
 have p1:=qo (h:=1) (x:=x) (k:=tn k) (s:=s) hB zF;rw [show ((1:Nat):Int)=1 from rfl,←e1] at p1
 have hi:=((dM ω).1 hm).2.1;have p2:=xW hin;rw [hi,←e2] at p2;have p3:=qo (h:=2) (x:=y) (k:=tn (A1.c m).k) (s:=s') hB2 okA2;rw [show ((2:Nat):Int)=2 from rfl,←e3] at p3
 have hmin:=tZ ω hm;have hp:(k::(il A 1).map tn).Perm (tn (A1.c m).k::(il A2 1).map tn):=by
  have a1:=(p1.1.symm.trans p2.1).map tn;rw [List.map_cons,List.map_cons,Jm] at a1;exact a1
 have hall:∀a,a∈k::(il A 1).map tn→a≤tn (A1.c m).k:=fun a ha=>by
  have a2:=(p1.1.map tn);rw [List.map_cons,Jm] at a2;obtain ⟨b,hb,rfl⟩:=List.mem_map.1 (a2.mem_iff.2 ha);have:=hmin.2 b hb;unfold tn;omega
 refine (jV.push h hp hall).congr ?_ ?_ (List.Perm.refl _)
 ·rw [p3.2 1 ω ω]
 ·rw [←p1.2 2 ω ω,←p2.2 2 ω ω];exact p3.1
theorem IJ.lift {K:List Int} {c:Nat} (h:IJ A K c) {m:Nat} (hm:bL A 2=some m) (hin:bD A (m:Int)=true) {A1 A2:NS} (e1:A1=aL A (m:Int)) (okA1:A1.Ok) {x:Nat} {s:Int} (hB:jy A1 1 (x:Int)=true) (e2:A2=aB A1 1 (x:Int) (tn (A.c m).k) s):IJ A2 K (c+1):=by
 have hi:=((dM ω).1 hm).2.1;have p1:=xW hin;rw [hi,←e1] at p1;have p2:=qo (h:=1) (x:=x) (k:=tn (A.c m).k) (s:=s) hB okA1;rw [show ((1:Nat):Int)=1 from rfl,←e2] at p2
 have hmin:=tZ ω hm;refine (jV.lift h p1.1 hmin.2).congr ?_ ?_ (List.Perm.refl _)
 ·have:=p2.1.map tn;rw [List.map_cons,Jm,p1.2 1 ω ω] at this;exact this
 ·rw [p2.2 2 ω ω]
theorem IJ.mid {K:List Int} {kf:Nat→Int} (h:IJ A K (j / 2+1)) (hK:K.Perm ((List.range (j+1)).map kf)) {m:Nat} (hm:bL A 1=some m):tn (A.c m).k=CQ kf j:=by
 have hmin:=tZ ω hm;have hs:=Dk kf (j+1)
 have:=Ij (M:=tn (A.c m).k) hs.1 (hs.2.trans (hK.symm.trans h.perm.symm)) h.ord (List.mem_map.2 ⟨_,hmin.1,rfl⟩) (fun a ha=>by
  obtain ⟨b,hb,rfl⟩:=List.mem_map.1 ha;have:=hmin.2 b hb
  unfold tn;omega)
 rw [h.len,Nat.add_sub_cancel,List.getElem?_map] at this;unfold CQ;rw [φ];cases hx:(aU kf (j+1))[j / 2]? with
 | none=>rw [hx] at this;cases this
 | some x=>rw [hx] at this;simp only [Option.map_some,Option.some.injEq] at this;rw [←this];rfl
structure J4 (n:Nat) (kf:Nat→Int) (R:AR) (A:NS) (q j:Nat):Prop where
 s:FC n R A q j
 h:∃K,IJ A K ((j+1) / 2)∧K.Perm ((List.range j).map kf)
 qj:q≤3*j
theorem JG {K:List Int} {kf:Nat→Int} {j:Nat} (h:K.Perm ((List.range j).map kf)):(kf j::K).Perm ((List.range (j+1)).map kf):=by
 rw [List.range_succ,List.map_append];exact (h.cons (kf j)).trans (List.perm_append_comm (l₁:=[kf j]))
theorem yK {x:Int} (h:-9223372036854775808≤x∧x≤9223372036854775807):-9223372036854775808≤tn x∧tn x≤9223372036854775807:=by unfold tn;omega
theorem FC.uQ (h:FC n R A q j) {g x:Nat} {k s:Int} (hg:0<g) (hB:jy A (g:Int) (x:Int)=true):∃m,bL (aB A (g:Int) (x:Int) k s) (g:Int)=some m:=by
 refine qY ω (fun e=>?_)
 have:=(qo (k:=k) (s:=s) hB h.zF).1.length_eq;rw [e] at this;simp at this
theorem J4.first {kf:Nat→Int} (h:J4 n kf R A q j) (hj:j<n) (hn:n≤65536) (hk:-9223372036854775808≤kf j∧kf j≤9223372036854775807) :
  ∃x R1 A1 m R2 A2 y R3 A3,aY A 1=true∧jk R=some (x,R1)∧A1=aB A 1 (x:Int) (tn (kf j)) ((q:Int)+1)∧bL A1 1=some m∧R2=fU R1 m∧A2=aL A1 (m:Int)∧aY A2 2=true∧jk R2=some (y,R3)∧A3=aB A2 2 (y:Int) (tn (A1.c m).k) (((q+1:Nat):Int)+1)∧
   (-9223372036854775808≤(A1.c m).k∧(A1.c m).k≤9223372036854775807)∧FC n R3 A3 (q+2) (j+1)∧∃K,IJ A3 K ((j+1) / 2)∧K.Perm ((List.range (j+1)).map kf):=by
 obtain ⟨K,hH,hK⟩:=h.h;have hq:=h.qj;obtain ⟨x,R1,hT⟩:=h.s.room hj;have s1:=h.s.put (g:=1) ω h.s.h1 (yK hk) hT;obtain ⟨m,hm⟩:=h.s.uQ (g:=1) (k:=tn (kf j)) (s:=(q:Int)+1) ω s1.1;rw [show ((1:Nat):Int)=1 from rfl] at s1 hm
 obtain ⟨A1,e1⟩:∃A1,A1=aB A 1 (x:Int) (tn (kf j)) ((q:Int)+1):=⟨_,rfl⟩
 rw [←e1] at s1 hm;have hkm:=s1.2.zF.key m;have s2:=s1.2.give ω ω hm;obtain ⟨y,R3,hT2⟩:=s2.2.2.2.room hj;have s3:=s2.2.2.2.put (g:=2) ω s2.2.2.2.h2 (yK ⟨hkm.1,hkm.2.1⟩) hT2;rw [show ((2:Nat):Int)=2 from rfl] at s3
 exact ⟨x,R1,A1,m,fU R1 m,aL A1 (m:Int),y,R3,_,h.s.h1,hT,e1,hm,rfl,rfl,s2.2.2.2.h2,hT2,rfl,⟨hkm.1,hkm.2.1⟩,s3.2,_,hH.push h.s.zF s1.1 e1 hm s2.2.1 rfl s2.2.2.2.zF s3.1 rfl,JG hK⟩
theorem J4.odd {kf:Nat→Int} {K:List Int} (s:FC n R A q (j+1)) (hq:q≤3*(j+1)) (hH:IJ A K ((j+1) / 2)) (hK:K.Perm ((List.range (j+1)).map kf)) (ho:j % 2=1):J4 n kf R A q (j+1)∧∃m,bL A 1=some m∧tn (A.c m).k=CQ kf j:=by
 have e1:(j+1) / 2=j / 2+1:=ω;have e2:(j+1+1) / 2=j / 2+1:=ω;rw [e1] at hH
 obtain ⟨m,hm⟩:=qY (A:=A) (g:=1) ω (fun e=>by
  have:=hH.len
  rw [e] at this;simp at this)
 exact ⟨⟨s,⟨K,by rw [e2];exact hH,hK⟩,hq⟩,m,hm,hH.mid hK hm⟩
theorem J4.even {kf:Nat→Int} {K:List Int} (s:FC n R A q (j+1)) (hj:j<n) (hq:q+1≤3*(j+1)) (hn:n≤65536) (hH:IJ A K ((j+1) / 2)) (hK:K.Perm ((List.range (j+1)).map kf)) (ho:j % 2=0) :
  ∃m R1 A1 x R2 A2,bL A 2=some m∧R1=fU R m∧A1=aL A (m:Int)∧aY A1 1=true∧jk R1=some (x,R2)∧A2=aB A1 1 (x:Int) (tn (A.c m).k) ((q:Int)+1)∧(-9223372036854775808≤(A.c m).k∧(A.c m).k≤9223372036854775807)∧
   J4 n kf R2 A2 (q+1) (j+1)∧∃m',bL A2 1=some m'∧tn (A2.c m').k=CQ kf j:=by
 have e1:(j+1) / 2=j / 2:=ω;have e2:(j+1+1) / 2=j / 2+1:=ω;rw [e1] at hH
 obtain ⟨m,hm⟩:=qY (A:=A) (g:=2) ω (fun e=>by
  have h1:=hH.len;have h2:=(hH.perm.trans hK).length_eq
  rw [e] at h2;simp at h2 h1;omega)
 have hkm:=s.zF.key m;have s2:=s.give ω ω hm;obtain ⟨x,R2,hT⟩:=s2.2.2.2.room hj;have s3:=s2.2.2.2.put (g:=1) ω s2.2.2.2.h1 (yK ⟨hkm.1,hkm.2.1⟩) hT;rw [show ((1:Nat):Int)=1 from rfl] at s3
 have hL:=hH.lift (s:=(q:Int)+1) hm s2.2.1 rfl s2.2.2.2.zF s3.1 rfl;obtain ⟨m',hm'⟩:=s2.2.2.2.uQ (g:=1) (k:=tn (A.c m).k) (s:=(q:Int)+1) ω s3.1;exact ⟨m,fU R m,aL A (m:Int),x,R2,_,hm,rfl,rfl,s2.2.2.2.h1,hT,rfl,⟨hkm.1,hkm.2.1⟩,⟨s3.2,⟨K,by rw [e2];exact hL,hK⟩,hq⟩,m',hm',hL.mid hK hm'⟩
theorem Ka (kf:Nat→Int) (hn:n≤65536):J4 n kf (AR.new n 4294967295) (Jz (NS.new n) 2) 0 0:=by
 have hm:Jz (NS.new n) 2=aG (aG (NS.new n)):=rfl;rw [hm];have hl:(aG (aG (NS.new n))).cs.length=n:=by rw [qH,qH];simp [NS.new]
 have hin:∀x:Nat,bD (aG (aG (NS.new n))) (x:Int)=false:=fun x=>by rw [sN,sN,DI]
 have hk:∀g:Int,0<g→il (aG (aG (NS.new n))) g=[]:=fun g hg=>by
  unfold il;cases hs:gu (aG (aG (NS.new n))) g with
  | nil=>rfl
  | cons x l=>
   have hx:=gZ.1 (show x∈gu (aG (aG (NS.new n))) g by rw [hs];simp)
   have:=hin x;rw [(af _ _).2 ⟨hx.1,by rw [hx.2];exact hg⟩] at this
   cases this
 have hg0:∀x,(AR.new n 4294967295).g x=0:=fun x=>((AR.pM hn ω).fresh x (Nat.zero_le _)).1
 refine ⟨⟨AR.pM hn ω,sW (sW (NS.pM n hn)),hl,by simp [AR.new],fun x=>by rw [JW,hin],?_,?_,rfl,fun x=>by rw [hg0];exact Nat.le_refl _,fun x hx=>absurd hx (Nat.not_lt_zero _),AR.FD _ _⟩,⟨[],?_,List.Perm.refl _⟩,Nat.le_refl _⟩
 ·unfold aG NS.new aY;simp
 ·unfold aG NS.new aY;simp
 ·unfold IJ;rw [hk 1 ω,hk 2 ω];exact ⟨List.Perm.refl _,fun a ha=>(by cases ha),rfl⟩
end
end Go.Proofs.YtklibcncmbofpaaGreat
