/-
  Lemmas for PathBest: Names, Map, Cells, Cells2. Conditions: those of each lemma.
-/
import Derived.StillTailTactics
import Derived.Maps.OwnSet
import Derived.Maps.OwnOps
import Derived.Maps.RangeWalk
import Derived.Test.YtklibcncmbofpaaGreatB01
set_option linter.all false
set_option maxHeartbeats 8000000
set_option maxRecDepth 10000
namespace Go.Proofs.YtklibcncmbofpaaGreat
open Go Go.RowKit
structure rJ (l:List Int) (rt dp:Nat->Nat):Prop where
 len:1<=l.length
 PI:l.length<=65537
 vU:∀i,1<=i->i<l.length->1<=l.getD i 0/\l.getD i 0<l.length
 up:∀i,1<=i->i<l.length->rt (l.getD i 0).toNat=rt i
 top:∀i,1<=i->i<l.length->l.getD i 0=i->rt i=i
 low:∀i,1<=i->i<l.length->l.getD i 0≠i->dp (l.getD i 0).toNat<dp i
theorem rJ.root {l:List Int} {rt dp:Nat->Nat} (h:rJ l rt dp):∀ (d i:Nat),dp i<=d->1<=i->i<l.length->1<=rt i/\rt i<l.length/\l.getD (rt i) 0=rt i
 | d,i,hd,h1,h2=>by
  by_cases e:l.getD i 0=i
  ·rw [h.top i h1 h2 e];exact ⟨h1,h2,e⟩
  ·have hl:=h.low i h1 h2 e;have hr:=h.vU i h1 h2
   match d,hd with
   | 0,hd=>omega
   | d+1,hd=>
    have:=rJ.root h d (l.getD i 0).toNat ω ω ω;rwa [h.up i h1 h2] at this
theorem rJ.XJ {l:List Int} {rt dp:Nat->Nat} (h:rJ l rt dp) {i:Nat} (h1:1<=i) (h2:i<l.length):1<=rt i/\rt i<l.length/\l.getD (rt i) 0=rt i:=h.root (dp i) i (Nat.le_refl _) h1 h2
theorem rJ.RB {l:List Int} {rt dp:Nat->Nat} (h:rJ l rt dp) {i:Nat} (h1:1<=i) (h2:i<l.length):l.getD i 0=i↔rt i=i:=
 ⟨h.top i h1 h2,fun e=>by have:=h.XJ h1 h2;rw [e] at this;exact this.2.2⟩
theorem PX (l:List Int) (i:Nat) (x:Int) (j:Nat):(l.set i x).getD j 0=if j=i/\i<l.length then x else l.getD j 0:=by
 simp only [φ,List.getElem?_set]
 by_cases h:i=j
 ·subst h
  by_cases hx:i<l.length
  ·simp [hx]
  ·simp [hx,List.getElem?_eq_none (Nat.le_of_not_lt hx)]
 ·rw [if_neg h,if_neg (fun e=>h e.1.symm)]
theorem rJ.short {l:List Int} {rt dp:Nat->Nat} (h:rJ l rt dp) {k:Nat} (h1:1<=k) (h2:k<l.length) (hk:l.getD k 0≠k):rJ (l.set k (l.getD (l.getD k 0).toNat 0)) rt dp:=by
 have r1:=h.vU k h1 h2;obtain ⟨j,hj⟩:∃j:Nat,l.getD k 0=j:=⟨(l.getD k 0).toNat,ω⟩;have u1:=h.up k h1 h2;have d1:=h.low k h1 h2 hk;rw [hj] at r1 u1 d1 hk ⊢;simp only [π] at u1 d1 ⊢;have hjk:j≠k:=fun e=>hk (by rw [e]);have r2:=h.vU j ω ω;obtain ⟨q,hq⟩:∃q:Nat,l.getD j 0=q:=⟨(l.getD j 0).toNat,ω⟩;have u2:=h.up j ω ω;have d2:=h.low j ω ω;rw [hq] at r2 u2 d2 ⊢;simp only [π] at u2 d2;have d3:q≠j->dp q<dp j:=fun e=>d2 ω;clear d2;refine ⟨by simp;exact h.len,by simp;exact h.PI,fun i a b=>?_,fun i a b=>?_,fun i a b=>?_,fun i a b=>?_⟩
 all_goals
  rw [List.length_set] at b;rw [PX]
 ·rw [List.length_set];split
  ·exact r2
  ·exact h.vU i a b
 ·split
  ·rename_i e;simp only [π];rw [u2,u1,e.1]
  ·exact h.up i a b
 ·split
  ·rename_i e
   intro he;have hqi:q=k:=by have:=e.1;omega
   by_cases e2:q=j
   ·exfalso;omega
   ·have:=d3 e2;rw [hqi] at this;omega
  ·exact h.top i a b
 ·split
  ·rename_i e
   intro he;simp only [π];rw [e.1]
   by_cases e2:q=j
   ·rw [e2];exact d1
   ·have:=d3 e2;omega
  ·exact h.low i a b
structure kS (w:World) (nm g cap:Nat) (l:List Int):Prop where
 head:∃c:Int,aO w nm 262 3 (fun j=>[Value.slice (some ⟨g,0,none⟩) l.length cap,.int .i64 65536,.int .i64 c].getD j undef)
 row:IZ w g cap l
 ne:nm≠g
theorem kS.upd {w w':World} {S:List Nat} {nm g cap:Nat} {l:List Int} (h:kS w nm g cap l) (hu:aa S w w') (h1:nm∉S) (h2:g∉S):kS w' nm g cap l:=by
 obtain ⟨c,h3⟩:=h.head;exact ⟨⟨c,h3.upd hu h1⟩,h.row.upd hu h2,h.ne⟩
theorem kS.c0 {w:World} {nm g cap:Nat} {l:List Int} (h:kS w nm g cap l):w.cell? ⟨nm,0,none⟩=some (.slice (some ⟨g,0,none⟩) l.length cap):=by obtain ⟨c,h⟩:=h.head;exact h.cellAt 0 ω rfl
theorem kS.c1 {w:World} {nm g cap:Nat} {l:List Int} (h:kS w nm g cap l):w.cell? ⟨nm,1,none⟩=some (.int .i64 65536):=by obtain ⟨c,h⟩:=h.head;exact h.cellAt 1 ω rfl
theorem kS.lt {w:World} {nm g cap:Nat} {l:List Int} (h:kS w nm g cap l):nm<w.heap.size/\g<w.heap.size:=by obtain ⟨c,h1⟩:=h.head;exact ⟨h1.lt,h.row.lt⟩
theorem kS.set {w:World} {nm g cap:Nat} {l:List Int} (h:kS w nm g cap l) (j:Nat) (x:Int):kS (w.setCell ⟨g,j,none⟩ (.int .i64 x)) nm g cap (l.set j x):=by
 obtain ⟨c,h1⟩:=h.head;exact ⟨⟨c,by rw [List.length_set];exact h1.far _ _ h.ne⟩,h.row.set j x,h.ne⟩
theorem kS.YJ {w:World} {nm g cap:Nat} {l:List Int} (h:kS w nm g cap l) (x:Int):kS (w.setCell ⟨nm,2,none⟩ (.int .i64 x)) nm g cap l:=by
 obtain ⟨c,h1⟩:=h.head;refine ⟨⟨x,(h1.set 2 (.int .i64 x)).ext (fun j hj=>?_)⟩,h.row.upd ((aa.refl [nm] w).setCell (Or.inl σ) _) (by simp;exact fun e=>h.ne e.symm),h.ne⟩;rcases (ω:j=0\/j=1\/j=2) with rfl|rfl|rfl<;>simp
theorem kS.setRow {w:World} {nm g cap:Nat} {l:List Int} (h:kS w nm g cap l) {W:World} {g' cap':Nat} {l':List Int} (hu:aa [g] w W) (hr:IZ W g' cap' l') (hne:nm≠g'):kS (W.setCell ⟨nm,0,none⟩ (.slice (some ⟨g',0,none⟩) l'.length cap')) nm g' cap' l':=by
 obtain ⟨c,h1⟩:=h.head;refine ⟨⟨c,((h1.upd hu (by simp;exact h.ne)).set 0 _).ext (fun j hj=>?_)⟩,hr.upd ((aa.refl [nm] W).setCell (Or.inl σ) _) (by simp;exact fun e=>hne e.symm),hne⟩;rcases (ω:j=0\/j=1\/j=2) with rfl|rfl|rfl<;>simp
theorem Gr (nm g cap:Nat) (l:List Int) (x:Int) (w:World) (h:kS w nm g cap l) (hl:l.length<=65537) :
  Calls Tryz.prog 162 #[.pointer (some ⟨nm,0,none⟩),.int .i64 x] w fun e w'=>e=.returned (.bool (decide (0<x) && decide (x<l.length)))/\w'=w:=by
 have c0:=h.c0;have hc:=h.row.cap;clear h
 by_cases h0:0<x
 ·go_enter Tryz.func162,Tryz.ntmps162
  go_wp2;go_ret;exact ⟨bf (by simp [h0]),rfl⟩
 ·go_enter Tryz.func162,Tryz.ntmps162
  go_wp2;go_ret;exact ⟨bf ζ,rfl⟩
def FZ (l:List Int) (x:Int):Bool:=decide (0<x) && decide (x<l.length) && (l.getD x.toNat 0 == x)
theorem QC (nm g cap:Nat) (l:List Int) (x:Int) (w:World) (h:kS w nm g cap l) (hl:l.length<=65537) :
  Calls Tryz.prog 152 #[.pointer (some ⟨nm,0,none⟩),.int .i64 x] w fun e w'=>e=.returned (.bool (FZ l x))/\w'=w:=by
 have k:=Gr nm g cap l x w h hl;unfold FZ;have c0:=h.c0;have hc:=h.row.cap
 by_cases h0:0<x/\x<l.length
 ·obtain ⟨i,rfl⟩:∃i:Nat,x=i:=⟨x.toNat,ω⟩;rw [show (decide (0<(i:Int)) && decide ((i:Int)<l.length))=true by simp;omega] at *;have hi:i<l.length:=ω;have c1:=h.row.cell i hi;simp only [π];generalize l.getD i 0=y at *;clear h
  go_enter Tryz.func152,Tryz.ntmps152
  go_wp2_with ((go_at_call 162;(with_reducible refine (k).mono ?_);rintro e w9 ⟨rfl,aM⟩;rw [aM];clear aM w9))
  go_ret;exact ⟨bf σ,rfl⟩
 ·rw [show (decide (0<x) && decide (x<l.length))=false by simp;omega] at *;clear h
  go_enter Tryz.func152,Tryz.ntmps152
  go_wp2_with ((go_at_call 162;(with_reducible refine (k).mono ?_);rintro e w9 ⟨rfl,aM⟩;rw [aM];clear aM w9))
  go_ret;exact ⟨bf σ,rfl⟩
theorem Gm (nm g cap:Nat) (l:List Int) (w:World) (h:kS w nm g cap l) (hl:l.length<=65537) :
  Calls Tryz.prog 168 #[.pointer (some ⟨nm,0,none⟩)] w fun e w'=>e=.returned (.int .i64 ((l.length:Int)-1))/\w'=w:=by
 have c0:=h.c0;have hc:=h.row.cap;clear h
 go_enter Tryz.func168,Tryz.ntmps168
 go_wp2;go_ret;exact ⟨rfl,rfl⟩
theorem OV (nm g cap:Nat) (l:List Int) (rt dp:Nat->Nat) (x:Nat) (w:World) (h:kS w nm g cap l) (ok:rJ l rt dp) (hx:1<=x) (hx2:x<l.length) :
  Calls Tryz.prog 153 #[.pointer (some ⟨nm,0,none⟩),.int .i64 (x:Int)] w fun e w'=>∃l',e=.returned (.tuple #[.int .i64 (rt x:Int),.bool true])/\kS w' nm g cap l'/\rJ l' rt dp/\l'.length=l.length/\aa [g] w w':=by
 have k:=Gr nm g cap l x w h ok.PI;rw [show (decide (0<(x:Int)) && decide ((x:Int)<l.length))=true by simp;omega] at k;generalize hr:rt x=r at *;have HR:=χ hr;clear hr
 go_enter Tryz.func153,Tryz.ntmps153
 go_wp2_with ((go_at_call 162;(with_reducible refine (k).mono ?_);rintro e w9 ⟨rfl,aM⟩;rw [aM];clear aM w9))
 clear k
 go_loopw [1] (fun id wr=>∃ (k:Nat) (l':List Int),id=.int .i64 (k:Int)/\1<=k/\k<l'.length/\rt k=r/\kS wr nm g cap l'/\rJ l' rt dp/\l'.length=l.length/\aa [g] w wr) (fun id _=>dp (intOf id).toNat)
 case atStart=>exact ⟨x,l,rfl,hx,hx2,HR.out,h,ok,rfl,aa.refl _ _⟩
 case round=>
  obtain ⟨k,l',rfl,hk1,hk2,hrt,hN,hok,hlen,hu⟩:=hrel;have c0:=hN.c0;have hc:=hN.row.cap;have c1:=hN.row.cell k hk2;have c2:=hN.row.free k;have hrg:=hok.vU k hk1 hk2;have hl2:=hok.PI;have HA:=χ (ψ h ok);have HB:=χ (ψ hN (ψ hok (ψ hlen hrt)));clear h ok hN hok hlen hrt
  by_cases hkk:l'.getD k 0=k
  ·rw [hkk] at c1;have HK:=χ hkk;clear hkk hrg;go_wp2;go_ret2;obtain ⟨h1,h2,h3,h4⟩:=HB.out;exact ⟨l',by rw [←h4,h2.top k hk1 hk2 HK.out];rfl,h1,h2,h3,hu⟩
  ·obtain ⟨j,hj⟩:∃j:Nat,l'.getD k 0=j:=⟨(l'.getD k 0).toNat,ω⟩;have hjr:1<=j/\j<l'.length:=ω;have c3:=HB.out.1.row.cell j hjr.2;have hrg2:=HB.out.2.1.vU j hjr.1 hjr.2;obtain ⟨q,hq⟩:∃q:Nat,l'.getD j 0=q:=⟨(l'.getD j 0).toNat,ω⟩;rw [hj] at c1 hrg hkk;rw [hq] at c3 hrg2;have hne:((j:Int) != (k:Int))=true:=by simpa using hkk
   have HJ:=χ (ψ hj (ψ hq hkk));clear hj hq hkk;go_wp2
   go_region
   go_wp2
   go_roundw
   case rel=>
    obtain ⟨h1,h2,h3,h4⟩:=HB.out;obtain ⟨e1,e2,e3⟩:=HJ.out;have hs:=h2.short hk1 hk2 (by rw [e1];exact e3);rw [e1] at hs;simp only [π] at hs;rw [e2] at hs;have u1:=h2.up k hk1 hk2;have u2:=h2.up j ω ω;rw [e1] at u1;rw [e2] at u2;simp only [π] at u1 u2;exact ⟨q,_,rfl,ω,by rw [List.length_set];omega,by rw [u2,u1,h4],(h1.set k q).upd ((aa.refl [] _).drew) σ σ,hs,by rw [List.length_set];exact h3,((hu.setCell (Or.inl σ) _)).drew⟩
   case measure=>
    obtain ⟨h1,h2,h3,h4⟩:=HB.out;obtain ⟨e1,e2,e3⟩:=HJ.out;have d1:=h2.low k hk1 hk2 (by rw [e1];exact e3);have d2:=h2.low j ω ω;rw [e1] at d1;rw [e2] at d2;simp only [π] at d1 d2;simp [intOf]
    by_cases e:q=j
    ·rw [e];exact d1
    ·have:=d2 ω;omega
theorem PO (nm g cap:Nat) (l:List Int) (w:World) (h:kS w nm g cap l) (hl:l.length=65537) :
  Calls Tryz.prog 163 #[.pointer (some ⟨nm,0,none⟩)] w fun e w'=>e=.returned (.tuple #[.int .i64 0,.bool false])/\aa [] w w':=by
 have k:=Gm nm g cap l;have k1:=fun W hW=>k W hW ω;rw [hl] at k1;have c1:∀d,(w.drewN d).cell? ⟨nm,1,none⟩=some (.int .i64 65536):=fun d=>h.c1;have H:=fun d=>(h.upd ((aa.refl [] w).drewN d) σ σ)
 clear h k
 go_enter Tryz.func163,Tryz.ntmps163
 go_wp2
 go_quiet ((go_at_call 168;exact Calls.quiet_of_same (k1 _ (H _))))
 go_wp2;go_ret2;exact ⟨rfl,(aa.refl _ _).drewN _⟩
theorem Pe (nm g cap:Nat) (l:List Int) (w:World) (h:kS w nm g cap l) (hl:1<=l.length) (hl2:l.length<=65536) :
  Calls Tryz.prog 163 #[.pointer (some ⟨nm,0,none⟩)] w fun e w'=>∃g' cap',e=.returned (.tuple #[.int .i64 (l.length:Int),.bool true])/\kS w' nm g' cap' (l++[(l.length:Int)])/\aa [nm,g] w w'/\(g'=g\/w.heap.size<=g'):=by
 have k1:=fun W hW=>Gm nm g cap l W hW ω;have c1:∀d,(w.drewN d).cell? ⟨nm,1,none⟩=some (.int .i64 65536):=fun d=>h.c1;have c0:∀d,(w.drewN d).cell? ⟨nm,0,none⟩=some (.slice (some ⟨g,0,none⟩) l.length cap):=fun d=>h.c0;obtain ⟨cn,hh⟩:=h.head;have c2:w.cell? ⟨nm,2,none⟩=some (.int .i64 cn):=hh.cellAt 2 ω rfl;have f0:=hh.free 0;have f2:=hh.free 2;have HO:Hid (∀d,(w.drewN d).ownsRow 0 3 1 (.slice (some ⟨g,0,none⟩) l.length cap) l.length (aU l)):=fun d=>(h.row.drewN d).own;have H:Hid (∀d,kS (w.drewN d) nm g cap l):=fun d=>(h.upd ((aa.refl [] w).drewN d) σ σ)
 have hcap:=h.row.cap;have hlt:=h.lt;have hne:=h.ne;have hb1:((l.length:Int)-1 == 65536)=false:=ζ;clear h hh;generalize hlen:l.length=len at *;have HL:=χ hlen;clear hlen
 go_enter Tryz.func163,Tryz.ntmps163
 go_wp2
 go_quiet ((go_at_call 168;exact Calls.quiet_of_same (k1 _ (H.out _))))
 go_wp2_with (((at_builtin;refine aW rfl _ _ 26 rfl 0 3 (.int .i64 0) 1 8 Tryz.underlying26 fK rfl δ _ _ _ rfl ((HO.out _)) [.int .i64 (len:Int)] rfl (by simp [Value.oneCell']) (by first|rfl|(rw [World.size_alloc];rfl)) μ ω (σ) ?_;intro v1 w1 ho1 hu1 Xg));obtain ⟨g1,cap1,rfl,_,hg1,hc1,hc2,_⟩:=gM ho1 ω;(have hu2:aa [g] (w.drewN nq) w1:=hu1);(have hs2:g1=g\/w.heap.size<g1:=by (rcases Xg with h'|h';(exact Or.inl (Option.some.inj h'));(exact Or.inr (h' g1 rfl))));clear hu1 Xg;(have q1:w1.cell? ⟨nm,0,none⟩=some (.slice (some ⟨g,0,none⟩) len cap):=(hu2.cell (p:=⟨nm,0,none⟩) hlt.1 (by simp;exact hne)).trans (c0 _));(have q2:w1.cell? ⟨nm,2,none⟩=some (.int .i64 cn):=(hu2.cell (p:=⟨nm,2,none⟩) hlt.1 (by simp;exact hne)).trans c2);(have q3:w1.frozen? ⟨nm,0,none⟩=false:=(hu2.frozen (p:=⟨nm,0,none⟩) hlt.1 (by simp;exact hne)).trans f0);(have q4:w1.frozen? ⟨nm,2,none⟩=false:=(hu2.frozen (p:=⟨nm,2,none⟩) hlt.1 (by simp;exact hne)).trans f2))
 go_ret2;have hn1:nm≠g1:=ω;have hz:IZ w1 g1 cap1 (l++[(len:Int)]):=⟨by rw [υ,HL.out,bN];exact ho1⟩;have hN:=(H.out nq).setRow hu2 hz hn1;rw [υ,HL.out] at hN;refine ⟨g1,cap1,rfl,?_,?_,ω⟩
 ·exact hN.YJ _
 ·exact ((((aa.refl [nm,g] w).drewN nq).joined hu2 (fun x hx=>Or.inl (by simp at hx;simp [hx]))).setCell (Or.inl σ) _).setCell (Or.inl σ) _
theorem QA (w:World):Calls Tryz.prog 114 #[.int .i64 65536] w fun e w'=>∃nm g,e=.returned (.tuple #[.pointer (some ⟨nm,0,none⟩),.int .i64 0])/\kS w' nm g 1 [0]/\aa [] w w'/\w.heap.size<=nm/\w.heap.size<=g:=by
 go_enter Tryz.func114,Tryz.ntmps114
 go_wp2;go_ret2;have hr:=eH (w.alloc (.cells #[.int .i64 0] 3)) [Value.slice (some ⟨w.heap.size,0,none⟩) 1 1,.int .i64 65536,.int .i64 0] 262;rw [World.size_alloc] at hr;exact ⟨_,_,rfl,⟨⟨0,hr⟩,(IZ.lit w [0] σ).upd ((aa.refl [] _).alloc _) σ,ω⟩,((aa.refl _ _).alloc _).alloc _,σ,Nat.le_refl _⟩
end Go.Proofs.YtklibcncmbofpaaGreat
namespace Go.Proofs.YtklibcncmbofpaaGreat
open Go Go.RowKit Go.Maps
theorem nodup_range:∀ (n:Nat) (l:List Int),l.Nodup->(∀x,x∈l->0<=x/\x<n)->l.length<=n
 | 0,l,_,h=>by
  cases l with
  | nil=>simp
  | cons x r=>have:=h x σ;omega
 | n+1,l,hn,h=>by
  have h1:=nodup_range n (l.filter (fun x=>x != (n:Int))) (hn.filter _) (fun x hx=>by
   simp only [List.mem_filter] at hx;have:=h x hx.1;have h2:x≠n:=by simpa using hx.2
   omega)
  have h2:l.length<=(l.filter (fun x=>x != (n:Int))).length+1:=by
   clear h1 h
   induction l with
   | nil=>simp
   | cons y r ih=>
    rw [List.nodup_cons] at hn
    by_cases hy:y=n
    ·subst hy;have e:r.filter (fun x=>x != (n:Int))=r:=by
      rw [List.filter_eq_self];intro a ha;simp;intro e;subst e;exact hn.1 ha
     rw [List.filter_cons_of_neg σ,e];simp
    ·rw [List.filter_cons_of_pos (by simpa using hy)];have:=ih hn.2;simp only [List.length_cons];omega
  omega
def gN (w:World) (b:Nat) (f:Int->Option Int):Prop:=
 ∃D:DataW Unit,w.ownsMap Tryz.prog 3 (plainElem Tryz.prog 3) b (Maps.size D) D/\
  (∀kl,Maps.has D kl=true->∃k:Int,kl=.int .i64 k/\0<=k/\k<=65536/\(f k).isSome=true)/\
  (∀k z,f k=some z->Maps.has D (.int .i64 k)=true/\∀d,D.atKey (.int .i64 k) d=.lit (.int .i64 z))
theorem wF {w:World} {k:TypeId} {R:Value->Option (DataW Unit×List MemPlace)} {b n:Nat} {D:DataW Unit} (h:w.ownsMap Tryz.prog k R b n D):w.ownsMap Tryz.prog k R b (Maps.size D) D:=by
 obtain ⟨es,clock,hb,F,hs,rfl⟩:=h;exact ⟨es,clock,hb,F,by simp [Maps.size,length_sorted],rfl⟩
theorem pR:Keyed Tryz.prog 3:=int_keyed Tryz.underlying3
theorem Ev (w:World):(zeroValue 3).run Tryz.prog w=.ok (.int .i64 0) w:=by kernel_rfl
theorem gN.same {w w':World} {b:Nat} {f:Int->Option Int} (h:gN w b f) (hb:w'.heap[b]?=w.heap[b]?):gN w' b f:=by
 obtain ⟨D,⟨es,clock,h1,h2⟩,h3⟩:=h;exact ⟨D,⟨es,clock,hb.trans h1,h2⟩,h3⟩
theorem gN.lt {w:World} {b:Nat} {f:Int->Option Int} (h:gN w b f):b<w.heap.size:=by
 obtain ⟨D,h1,_⟩:=h;exact h1.lt
theorem gN.upd {w w':World} {S:List Nat} {b:Nat} {f:Int->Option Int} (h:gN w b f) (hu:aa S w w') (hn:b∉S):gN w' b f:=h.same (hu.block b h.lt hn)
theorem gN.ext {w:World} {b:Nat} {f g:Int->Option Int} (h:gN w b f) (hg:∀k,f k=g k):gN w b g:=by
 rwa [show f=g from funext hg] at h
theorem DL {P:Program} {k:TypeId} {R:Value->Option (DataW Unit×List MemPlace)} {es':Array MapEntry} {clock:Nat} (K:Keyed P k) (F:Go.WideElems.Fit P k R es' clock) {p:Lit×DataW Unit}
  (hp:p∈(es'.toList.map (Go.WideElems.rg P k R)).foldr DataW.insert []):WideAt.IsKeyLit p.1:=by
 have hp2:=(Go.WideShapes.sorted_perm _).mem_iff.1 hp;obtain ⟨x,hx,rfl⟩:=List.mem_map.1 hp2;obtain ⟨y,hy⟩:=F.reads x hx;rw [Go.WideElems.rg_of hy];exact K.key (Go.WideElems.rd_key hy)
theorem gN.small {w:World} {b:Nat} {f:Int->Option Int} {D:DataW Unit} (h1:w.ownsMap Tryz.prog 3 (plainElem Tryz.prog 3) b (Maps.size D) D)
  (h2:∀kl,Maps.has D kl=true->∃k:Int,kl=.int .i64 k/\0<=k/\k<=65536/\(f k).isSome=true):Maps.size D<=65537:=by
 obtain ⟨es,rfl,hp⟩:=h1.tidy pR
 let num:Lit->Int:=fun l=>match l with | .int _ k=>k|_=>0
 have hk:∀p∈es,∃k:Int,p.1=.int .i64 k/\0<=k/\k<=65536:=fun p hp=>by
  have hh:Maps.has (DataW.map es) p.1=true:=by
   rw [has_eq];refine List.any_eq_true.2 ⟨p,hp,WideAt.sameKey_self ?_⟩;obtain ⟨es',clock,_,F,_,he⟩:=h1;have hes:es=(es'.toList.map (Go.WideElems.rg Tryz.prog 3 (plainElem Tryz.prog 3))).foldr DataW.insert []:=by simpa using he
   rw [hes] at hp;exact DL pR F hp
  obtain ⟨k,hk,h3,h4,_⟩:=h2 _ hh;exact ⟨k,hk,h3,h4⟩
 have:=nodup_range 65537 (es.map fun p=>num p.1) (by
  unfold List.Nodup;rw [List.pairwise_map];refine (List.Pairwise.imp_of_mem ?_ hp);intro a b ha hb hab e;obtain ⟨k1,e1,_⟩:=hk a ha;obtain ⟨k2,e2,_⟩:=hk b hb;rw [e1,e2] at e hab;exact hab (by rw [show k1=k2 from e])) (fun x hx=>by
  obtain ⟨p,hp,rfl⟩:=List.mem_map.1 hx;obtain ⟨k,e,h3,h4⟩:=hk p hp
  rw [e];show 0<=k/\k<((65537:Nat):Int);omega)
 simpa [size_eq] using this
theorem wL {k:Int} (h:-9223372036854775808<=k/\k<=9223372036854775807):keyOf Tryz.prog 3 (.int .i64 k)=some (.int .i64 k):=keyOf_int_mk Tryz.underlying3 (WalkArith.wf_i64 h)
theorem gN.look {w:World} {b:Nat} {f:Int->Option Int} (h:gN w b f) (k:Int) (hk:-9223372036854775808<=k/\k<=9223372036854775807) :
  (Instr.lookup 232 (.map (some b)) (.int .i64 k) false).run Tryz.prog w=.ok (.int .i64 ((f k).getD 0)) w:=by
 obtain ⟨D,h1,h2,h3⟩:=h;obtain ⟨c,hrun,hat,_⟩:=h1.lookup_int pR Tryz.underlying232 Tryz.underlying3 (Ev w) (wL hk);rw [hrun];cases hf:f k with
 | some z=>
  rw [(h3 k z hf).2] at hat;have:z=c:=by simpa using hat
  rw [this];rfl
 | none=>
  have:Maps.has D (.int .i64 k)=false:=by
   cases hh:Maps.has D (.int .i64 k)
   ·rfl
   ·obtain ⟨k',e,_,_,h4⟩:=h2 _ hh;cases e;rw [hf] at h4;cases h4
  rw [atKey_of_not_has this] at hat;have:(0:Int)=c:=by simpa using hat
  rw [←this];rfl
theorem gN.look_ok {w:World} {b:Nat} {f:Int->Option Int} (h:gN w b f) (k:Int) (hk:-9223372036854775808<=k/\k<=9223372036854775807) :
  (Instr.lookup 232 (.map (some b)) (.int .i64 k) true).run Tryz.prog w=.ok (.tuple #[.int .i64 ((f k).getD 0),.bool (f k).isSome]) w:=by
 obtain ⟨D,h1,h2,h3⟩:=h;obtain ⟨v,ps,hrun,hv⟩:=h1.look_ok pR Tryz.underlying232 (Ev w) (plainElem_int Tryz.underlying3 (a:=0) δ) (wL hk);obtain ⟨c,rfl,hc,_⟩:=plainElem_int_inv Tryz.underlying3 hv;simp only [Prod.mk.injEq] at hc;have hat:=hc.1;rw [hrun];cases hf:f k with
 | some z=>
  rw [(h3 k z hf).2] at hat;rw [(h3 k z hf).1];have:z=c:=by simpa using hat
  rw [this];rfl
 | none=>
  have:Maps.has D (.int .i64 k)=false:=by
   cases hh:Maps.has D (.int .i64 k)
   ·rfl
   ·obtain ⟨k',e,_,_,h4⟩:=h2 _ hh;cases e;rw [hf] at h4;cases h4
  rw [atKey_of_not_has this] at hat;rw [this];have:(0:Int)=c:=by simpa using hat
  rw [←this];rfl
theorem pE {w w':World} {b:Nat} (h:w.mapTurned w' b):aa [b] w w':=(aa.refl [b] w).grown h.grown (fun k hk=>Or.inl (by cases hk;simp))
theorem gN.store {w:World} {b:Nat} {f:Int->Option Int} (h:gN w b f) (k z:Int) (hk:0<=k/\k<=65536) (hz:-9223372036854775808<=z/\z<=9223372036854775807) :
  ∃w',(Instr.mapUpdate 232 (.map (some b)) (.int .i64 k) (.int .i64 z)).run Tryz.prog w=.ok () w'/\gN w' b (fun q=>if q=k then some z else f q)/\aa [b] w w':=by
 obtain ⟨D,h1,h2,h3⟩:=h;have hs:=gN.small h1 h2;obtain ⟨w',hrun,ho,ht⟩:=h1.store pR Tryz.underlying232 μ (wL (k:=k) ω) (plainElem_int Tryz.underlying3 (a:=z) (WalkArith.wf_i64 hz));have hD:=h1.isMap;refine ⟨w',hrun,⟨_,wF ho,fun kl hkl=>?_,fun q y hq=>?_⟩,pE ht⟩
 ·by_cases e:kl=.int .i64 k
  ·exact ⟨k,e,hk.1,hk.2,σ⟩
  ·rw [has_put_other e] at hkl;obtain ⟨q,rfl,a,b,c⟩:=h2 kl hkl;refine ⟨q,rfl,a,b,?_⟩
   show (if q=k then some z else f q).isSome=true
   split
   ·rfl
   ·exact c
 ·by_cases e:q=k
  ·subst e;simp only [if_true,Option.some.injEq] at hq;subst hq;exact ⟨has_put_same hD (show WideAt.IsKeyLit (.int .i64 q) from True.intro) _,fun d=>atKey_put_same hD (show WideAt.IsKeyLit (.int .i64 q) from True.intro) _ _⟩
  ·simp only [if_neg e] at hq;have hne:(Lit.int .i64 q)≠.int .i64 k:=fun h=>e (by cases h;rfl);rw [has_put_other hne];exact ⟨(h3 q y hq).1,fun d=>by rw [atKey_put_other hne];exact (h3 q y hq).2 d⟩
theorem gN.drop {w:World} {b:Nat} {f:Int->Option Int} (h:gN w b f) (k:Int) (hk:-9223372036854775808<=k/\k<=9223372036854775807) (ty:TypeId) :
  ∃w',(Builtin.delete_ #[232,3] ty #[.map (some b),.int .i64 k]).run Tryz.prog w=.ok (.tuple #[]) w'/\gN w' b (fun q=>if q=k then none else f q)/\aa [b] w w':=by
 obtain ⟨D,h1,h2,h3⟩:=h;obtain ⟨w',hrun,ho,ht⟩:=h1.drop pR Tryz.underlying232 (wL hk) ty;refine ⟨w',hrun,⟨_,wF ho,fun kl hkl=>?_,fun q y hq=>?_⟩,pE ht⟩
 ·by_cases e:kl=.int .i64 k
  ·subst e;rw [has_del_same] at hkl;cases hkl
  ·rw [has_del_other e] at hkl;obtain ⟨q,rfl,a,b,c⟩:=h2 kl hkl;exact ⟨q,rfl,a,b,by show (if q=k then none else f q).isSome=true;rw [if_neg (fun h=>e (by rw [h]))];exact c⟩
 ·by_cases e:q=k
  ·subst e;simp at hq
  ·simp only [if_neg e] at hq;have hne:(Lit.int .i64 q)≠.int .i64 k:=fun h=>e (by cases h;rfl);rw [has_del_other hne];exact ⟨(h3 q y hq).1,fun d=>by rw [atKey_del_other hne];exact (h3 q y hq).2 d⟩
theorem gN.made (w:World):gN (w.alloc (.map #[] 0)) w.heap.size (fun _=>none):=
 ⟨.map [],World.ownsMap_made w _ _ _,fun kl hkl=>by simp [has_eq] at hkl,fun k z hz=>by cases hz⟩
theorem mK {w:World} {ops:Array Oper} {rest:List Oper} {o:Oper} {a:Act} {Q:Exit->Act->World->Prop} (hg:o.guard=none) (m x v:Operand) (hop:o.op=Op.mapUpdate 232 m x v)
  (b:Nat) (f:Int->Option Int) (hm:a.eval m=.map (some b)) (h:gN w b f) (k z:Int) (hx:a.eval x=.int .i64 k) (hv:a.eval v=.int .i64 z) (hk:0<=k/\k<=65536) (hz:-9223372036854775808<=z/\z<=9223372036854775807)
  (hK:∀w',gN w' b (fun q=>if q=k then some z else f q)->aa [b] w w'->wpList Tryz.prog ops Q rest (a.put o.dst undef) w'):wpList Tryz.prog ops Q (o::rest) a w:=by
 refine wpList_plain hg fun K' hK'=>?_;obtain ⟨w',hrun,r1,r2⟩:=h.store k z hk hz;unfold Oper.wp;simp [execOp,hop,hm,hx,hv,hrun,Result.andThen];exact hK' _ _ (hK w' r1 r2)
theorem oQ {w:World} {ops:Array Oper} {rest:List Oper} {o:Oper} {a:Act} {Q:Exit->Act->World->Prop} (hg:o.guard=none) (m x:Operand) (hop:o.op=Op.call { callee:=Callee.builtin Builtin.delete,args:=#[m,x],argTypes:=#[232,3] })
  (b:Nat) (f:Int->Option Int) (hm:a.eval m=.map (some b)) (h:gN w b f) (k:Int) (hx:a.eval x=.int .i64 k) (hk:-9223372036854775808<=k/\k<=9223372036854775807)
  (hK:∀w',gN w' b (fun q=>if q=k then none else f q)->aa [b] w w'->wpList Tryz.prog ops Q rest (a.put o.dst (.tuple #[])) w'):wpList Tryz.prog ops Q (o::rest) a w:=by
 refine wpList_plain hg fun K' hK'=>?_;obtain ⟨w',hrun,r1,r2⟩:=h.drop k hk o.type;unfold Oper.wp;simp [execOp,hop,resolve,invoke,builtin,hm,hx,hrun,Result.andThen];exact hK' _ _ (hK w' r1 r2)
theorem lL {w:World} {ops:Array Oper} {rest:List Oper} {o:Oper} {a:Act} {Q:Exit->Act->World->Prop} (hg:o.guard=none) (m x:Operand) (hop:o.op=Op.lookup 232 m x false)
  (b:Nat) (f:Int->Option Int) (hm:a.eval m=.map (some b)) (h:gN w b f) (k:Int) (hx:a.eval x=.int .i64 k) (hk:-9223372036854775808<=k/\k<=9223372036854775807) (z:Int) (hz:(f k).getD 0=z)
  (hK:wpList Tryz.prog ops Q rest (a.put o.dst (.int .i64 z)) w):wpList Tryz.prog ops Q (o::rest) a w:=by
 refine wpList_plain hg fun K' hK'=>?_;have hrun:=h.look k hk;rw [hz] at hrun;unfold Oper.wp;simp [execOp,hop,hm,hx,hrun,Result.andThen];exact hK' _ _ hK
theorem ny {w:World} {ops:Array Oper} {rest:List Oper} {o:Oper} {a:Act} {Q:Exit->Act->World->Prop} (hg:o.guard=none) (m x:Operand) (hop:o.op=Op.lookup 232 m x true)
  (b:Nat) (f:Int->Option Int) (hm:a.eval m=.map (some b)) (h:gN w b f) (k:Int) (hx:a.eval x=.int .i64 k) (hk:-9223372036854775808<=k/\k<=9223372036854775807)
  (hK:wpList Tryz.prog ops Q rest (a.put o.dst (.tuple #[.int .i64 ((f k).getD 0),.bool (f k).isSome])) w):wpList Tryz.prog ops Q (o::rest) a w:=by
 refine wpList_plain hg fun K' hK'=>?_;have hrun:=h.look_ok k hk;unfold Oper.wp;simp [execOp,hop,hm,hx,hrun,Result.andThen];exact hK' _ _ hK
end Go.Proofs.YtklibcncmbofpaaGreat
namespace Go.Proofs.YtklibcncmbofpaaGreat
open Go Go.RowKit
def kP (raw:Nat->Cl) (j:Nat):Value:=if j % 3=0 then .int .i64 (raw (j / 3)).i else if j % 3=1 then .int .i64 (raw (j / 3)).k else .int .u64 (raw (j / 3)).s
theorem Mi (raw:Nat->Cl) (x:Nat):kP raw (x*3)=.int .i64 (raw x).i:=by unfold kP;rw [if_pos ω,show x*3 / 3=x by omega]
theorem yR (raw:Nat->Cl) (x:Nat):kP raw (x*3+1)=.int .i64 (raw x).k:=by unfold kP;rw [if_neg ω,if_pos ω,show (x*3+1) / 3=x by omega]
theorem yT (raw:Nat->Cl) (x:Nat):kP raw (x*3+2)=.int .u64 (raw x).s:=by unfold kP;rw [if_neg ω,if_neg ω,show (x*3+2) / 3=x by omega]
def jF (A:NS) (h:Int):Option Int:=if 0<dZ A h then some (dZ A h:Int) else none
theorem uD (A:NS) (h:Int):(jF A h).getD 0=dZ A h:=by unfold jF;split;rfl;simp;omega
structure CM (w:World) (c ca nm mb g cap:Nat) (l:List Int) (rt dp:Nat->Nat) (raw:Nat->Cl) (A:NS) (st:Nat):Prop where
 head:aO w c 245 4 (fun j=>[Value.int .i64 (st:Int),.slice (some ⟨ca,0,none⟩) A.cs.length A.cs.length,.pointer (some ⟨nm,0,none⟩),.map (some mb)].getD j undef)
 row:aO w ca 281 (A.cs.length*3) (kP raw)
 WN:kS w nm g cap l
 many:gN w mb (jF A)
 Qc:rJ l rt dp
 ok:A.Ok
 pI:st<=4611686018427387904
 rel:∀x,x<A.cs.length->(raw x=Cl.z/\A.c x=Cl.z)\/(1<=(raw x).i/\(raw x).i<l.length/\A.c x=⟨rt (raw x).i.toNat,(raw x).k,(raw x).s⟩)
 hlen:A.hs.length=l.length
 has:∀i,1<=i->i<l.length->A.hs.getD i false=decide (l.getD i 0=i)
 sep:(c≠ca/\c≠nm/\c≠mb/\c≠g)/\(ca≠nm/\ca≠mb/\ca≠g)/\(nm≠mb/\mb≠g)
theorem CM.upd {w w':World} {S:List Nat} {c ca nm mb g cap:Nat} {l:List Int} {rt dp:Nat->Nat} {raw:Nat->Cl} {A:NS} {st:Nat} (h:CM w c ca nm mb g cap l rt dp raw A st) (hu:aa S w w') (hS:∀x,x∈S->x∉[c,ca,nm,mb,g]):CM w' c ca nm mb g cap l rt dp raw A st:=
 ⟨h.head.upd hu (fun m=>hS _ m σ),h.row.upd hu (fun m=>hS _ m σ),h.WN.upd hu (fun m=>hS _ m σ) (fun m=>hS _ m σ),h.many.upd hu (fun m=>hS _ m σ),h.Qc,h.ok,h.pI,h.rel,h.hlen,h.has,h.sep⟩
def aG (w:World) (c:Nat) (F:List Nat) (A:NS) (st:Nat):Prop:=∃ca nm mb g cap l rt dp raw,CM w c ca nm mb g cap l rt dp raw A st/\F=[c,ca,nm,mb,g]
theorem aG.upd {w w':World} {S F:List Nat} {c:Nat} {A:NS} {st:Nat} (h:aG w c F A st) (hu:aa S w w') (hS:∀x,x∈S->x∉F):aG w' c F A st:=by
 obtain ⟨ca,nm,mb,g,cap,l,rt,dp,raw,h,rfl⟩:=h;exact ⟨ca,nm,mb,g,cap,l,rt,dp,raw,h.upd hu hS,rfl⟩
theorem aG.aA {w w':World} {F:List Nat} {c:Nat} {A:NS} {st:Nat} (h:aG w c F A st) (hu:aa [] w w'):aG w' c F A st:=h.upd hu σ
theorem aG.ok {w:World} {F:List Nat} {c:Nat} {A:NS} {st:Nat} (h:aG w c F A st):A.Ok:=by
 obtain ⟨ca,nm,mb,g,cap,l,rt,dp,raw,h,rfl⟩:=h;exact h.ok
theorem aG.pI {w:World} {F:List Nat} {c:Nat} {A:NS} {st:Nat} (h:aG w c F A st):st<=4611686018427387904:=by
 obtain ⟨ca,nm,mb,g,cap,l,rt,dp,raw,h,rfl⟩:=h;exact h.pI
theorem aG.lt {w:World} {F:List Nat} {c:Nat} {A:NS} {st:Nat} (h:aG w c F A st):∀x,x∈F->x<w.heap.size:=by
 obtain ⟨ca,nm,mb,g,cap,l,rt,dp,raw,h,rfl⟩:=h;intro x hx;have:=h.head.lt;have:=h.row.lt;have:=h.WN.lt;have:=h.many.lt;simp at hx;omega
theorem aG.mem {w:World} {F:List Nat} {c:Nat} {A:NS} {st:Nat} (h:aG w c F A st):c∈F:=by
 obtain ⟨ca,nm,mb,g,cap,l,rt,dp,raw,h,rfl⟩:=h;simp
def Goes (F:List Nat) (w w':World) (P:List Nat->Prop):Prop:=∃F',P F'/\aa F w w'/\∀x,x∈F'->x∈F\/w.heap.size<=x
theorem Goes.stay {F:List Nat} {w w':World} {P:List Nat->Prop} (h:P F) (hu:aa F w w'):Goes F w w' P:=⟨F,h,hu,fun x hx=>Or.inl hx⟩
section
variable {w:World} {c ca nm mb g cap:Nat} {l:List Int} {rt dp:Nat->Nat} {raw:Nat->Cl} {A:NS} {st:Nat}
theorem CM.c0 (h:CM w c ca nm mb g cap l rt dp raw A st):w.cell? ⟨c,0,none⟩=some (.int .i64 (st:Int)):=h.head.cellAt 0 ω rfl
theorem CM.c1 (h:CM w c ca nm mb g cap l rt dp raw A st):w.cell? ⟨c,1,none⟩=some (.slice (some ⟨ca,0,none⟩) A.cs.length A.cs.length):=h.head.cellAt 1 ω rfl
theorem CM.c2 (h:CM w c ca nm mb g cap l rt dp raw A st):w.cell? ⟨c,2,none⟩=some (.pointer (some ⟨nm,0,none⟩)):=h.head.cellAt 2 ω rfl
theorem CM.c3 (h:CM w c ca nm mb g cap l rt dp raw A st):w.cell? ⟨c,3,none⟩=some (.map (some mb)):=h.head.cellAt 3 ω rfl
theorem CM.X0 (h:CM w c ca nm mb g cap l rt dp raw A st) {x:Nat} (hx:x<A.cs.length):decide (0<(A.c x).i)=decide (0<(raw x).i):=by
 rcases h.rel x hx with ⟨h1,h2⟩|⟨h1,h2,h3⟩
 ·rw [h1,h2]
 ·have:=h.Qc.XJ (i:=(raw x).i.toNat) ω ω;rw [h3,decide_eq_decide];simp only;omega
theorem CM.FZ (h:CM w c ca nm mb g cap l rt dp raw A st) (x:Int):FZ l x=bK A x:=by
 unfold Go.Proofs.YtklibcncmbofpaaGreat.FZ bK;rw [h.hlen]
 by_cases hx:0<x/\x<l.length
 ·rw [h.has x.toNat ω ω,Bool.eq_iff_iff];simp only [Bool.and_eq_true,decide_eq_true_eq,beq_iff_eq];constructor
  ·rintro ⟨_,h2⟩;exact ⟨⟨ω,ω⟩,ω⟩
  ·rintro ⟨_,h2⟩;exact ⟨⟨ω,ω⟩,ω⟩
 ·have e1:(decide (0<x) && decide (x<(l.length:Int)))=false:=ζ;have e2:(decide (1<=x) && decide (x<(l.length:Int)))=false:=ζ;rw [e1,e2];rfl
end
theorem jN {w:World} {c st:Nat} {F:List Nat} {A:NS} (h:aG w c F A st) (x:Int) :
  Calls Tryz.prog 139 #[.pointer (some ⟨c,0,none⟩),.int .i64 x] w fun e w'=>e=.returned (.bool (bK A x))/\w'=w:=by
 obtain ⟨ca,nm,mb,g,cap,l,rt,dp,raw,h,rfl⟩:=h;have c2:=h.c2;have k:=QC nm g cap l x w h.WN h.Qc.PI;rw [h.FZ] at k;clear h
 go_enter Tryz.func139,Tryz.ntmps139
 go_wp2_with ((go_at_call 152;(with_reducible refine (k).mono ?_);rintro e w9 ⟨rfl,aM⟩;rw [aM];clear aM w9))
 go_ret;exact ⟨rfl,rfl⟩
theorem pV {w:World} {c st:Nat} {F:List Nat} {A:NS} (h:aG w c F A st) (x:Int) (hx:-9223372036854775808<=x/\x<=9223372036854775807) :
  Calls Tryz.prog 142 #[.pointer (some ⟨c,0,none⟩),.int .i64 x] w fun e w'=>e=.returned (.int .i64 (dZ A x:Int))/\w'=w:=by
 obtain ⟨ca,nm,mb,g,cap,l,rt,dp,raw,h,rfl⟩:=h;have c3:=h.c3;have hl:=h.many.look x hx;rw [uD] at hl;clear h
 go_enter Tryz.func142,Tryz.ntmps142
 go_wp2;go_ret;exact ⟨rfl,rfl⟩
theorem zi {w:World} {c st:Nat} {F:List Nat} {A:NS} (h:aG w c F A st) (x:Int) :
  Calls Tryz.prog 160 #[.pointer (some ⟨c,0,none⟩),.int .i64 x] w fun e w'=>e=.returned (.bool (vT A x))/\w'=w:=by
 obtain ⟨ca,nm,mb,g,cap,l,rt,dp,raw,h,rfl⟩:=h;have c1:=h.c1;have h1:=h.ok.c1;clear h;unfold vT
 by_cases h0:0<=x
 ·go_enter Tryz.func160,Tryz.ntmps160
  go_wp2;go_ret;exact ⟨bf (by simp [h0]),rfl⟩
 ·go_enter Tryz.func160,Tryz.ntmps160
  go_wp2;go_ret;exact ⟨bf ζ,rfl⟩
theorem qJ {w:World} {c st:Nat} {F:List Nat} {A:NS} (h:aG w c F A st) (x:Int) :
  Calls Tryz.prog 149 #[.pointer (some ⟨c,0,none⟩),.int .i64 x] w fun e w'=>e=.returned (.bool (bX A x))/\w'=w:=by
 have k:=zi h x;obtain ⟨ca,nm,mb,g,cap,l,rt,dp,raw,h,rfl⟩:=h;have c1:=h.c1;have h1:=h.ok.c1;unfold bX;cases hs:vT A x
 ·rw [hs] at k;clear h
  go_enter Tryz.func149,Tryz.ntmps149
  go_wp2_with ((go_at_call 160;(with_reducible refine (k).mono ?_);rintro e w9 ⟨rfl,aM⟩;rw [aM];clear aM w9))
  go_ret;exact ⟨rfl,rfl⟩
 ·rw [hs] at k;have hx:=(ic _ _).1 hs;obtain ⟨i,rfl⟩:∃i:Nat,x=i:=⟨x.toNat,ω⟩;have hi:i<A.cs.length:=ω;have d0:=h.row.cellAt (i*3) ω (Mi raw i);simp only [π];rw [h.X0 hi];clear h hs
  go_enter Tryz.func149,Tryz.ntmps149
  go_wp2_with ((go_at_call 160;(with_reducible refine (k).mono ?_);rintro e w9 ⟨rfl,aM⟩;rw [aM];clear aM w9))
  go_ret;exact ⟨bf σ,rfl⟩
theorem row3 {w:World} {ca m i:Nat} {e:TypeId} {raw:Nat->Cl} (h:aO w ca e m (kP raw)) (cl:Cl) :
  aO (((w.setCell ⟨ca,i*3,none⟩ (.int .i64 cl.i)).setCell ⟨ca,i*3+1,none⟩ (.int .i64 cl.k)).setCell ⟨ca,i*3+2,none⟩ (.int .u64 cl.s)) ca e m (kP (fun y=>if y=i then cl else raw y)):=by
 refine (((h.set _ _).set _ _).set _ _).ext (fun j hj=>?_);simp only [kP]
 by_cases e0:j=i*3+2
 ·rw [if_pos e0,if_neg ω,if_neg ω,if_pos ω]
 ·rw [if_neg e0]
  by_cases e1:j=i*3+1
  ·rw [if_pos e1,if_neg ω,if_pos ω,if_pos ω]
  ·rw [if_neg e1]
   by_cases e2:j=i*3
   ·rw [if_pos e2,if_pos ω,if_pos ω]
   ·rw [if_neg e2,if_neg (show ¬j / 3=i by omega)]
theorem row2 {w:World} {ca m i:Nat} {e:TypeId} {raw:Nat->Cl} (h:aO w ca e m (kP raw)) (k s:Int) :
  aO ((w.setCell ⟨ca,i*3+1,none⟩ (.int .i64 k)).setCell ⟨ca,i*3+2,none⟩ (.int .u64 s)) ca e m (kP (fun y=>if y=i then ⟨(raw i).i,k,s⟩ else raw y)):=by
 refine ((h.set _ _).set _ _).ext (fun j hj=>?_);simp only [kP]
 by_cases e0:j=i*3+2
 ·rw [if_pos e0,if_neg ω,if_neg ω,if_pos ω]
 ·rw [if_neg e0]
  by_cases e1:j=i*3+1
  ·rw [if_pos e1,if_neg ω,if_pos ω,if_pos ω]
  ·rw [if_neg e1]
   by_cases e2:j=i*3
   ·rw [if_pos ω,if_pos ω,if_pos ω,show j / 3=i by omega]
   ·rw [if_neg (show ¬j / 3=i by omega)]
section
variable {w:World} {c ca nm mb g cap:Nat} {l:List Int} {rt dp:Nat->Nat} {raw:Nat->Cl} {A:NS} {st:Nat}
theorem CM.turn (h:CM w c ca nm mb g cap l rt dp raw A st) {w2:World} {FO:Nat->Cl} {A':NS} (hu:aa [ca,mb] w w2) (hrow:aO w2 ca 281 (A.cs.length*3) (kP FO)) (hm:gN w2 mb (jF A')) (hok:A'.Ok)
  (hlen:A'.cs.length=A.cs.length) (lX:A'.hs=A.hs) (hrel:∀x,x<A.cs.length->(FO x=Cl.z/\A'.c x=Cl.z)\/(1<=(FO x).i/\(FO x).i<l.length/\A'.c x=⟨rt (FO x).i.toNat,(FO x).k,(FO x).s⟩)) :
  CM w2 c ca nm mb g cap l rt dp FO A' st:=by
 have s:=h.sep;refine ⟨?_,by rw [hlen];exact hrow,h.WN.upd hu ι ι,hm,h.Qc,hok,h.pI,by rw [hlen];exact hrel,by rw [lX];exact h.hlen,by rw [lX];exact h.has,s⟩;rw [hlen];exact h.head.upd hu ι
theorem CM.Zv (h:CM w c ca nm mb g cap l rt dp raw A st) {i:Nat} (hi:bK A i=true):1<=i/\i<l.length/\rt i=i/\l.getD i 0=i:=by
 rw [←h.FZ] at hi;unfold Go.Proofs.YtklibcncmbofpaaGreat.FZ at hi;simp only [Bool.and_eq_true,decide_eq_true_eq,beq_iff_eq,π] at hi;exact ⟨ω,ω,h.Qc.top i ω ω hi.2,hi.2⟩
end
def Yj (l:List Int) (rt:Nat->Nat) (cr ca:Cl):Prop:=(cr=Cl.z/\ca=Cl.z)\/(1<=cr.i/\cr.i<l.length/\ca=⟨rt cr.i.toNat,cr.k,cr.s⟩)
theorem zM {l:List Int} {rt:Nat->Nat} {raw:Nat->Cl} {A:NS} {x:Nat} {cr ca:Cl} (h:∀y,y<A.cs.length->Yj l rt (raw y) (A.c y)) (hx:x<A.cs.length) (hc:Yj l rt cr ca) :
  ∀y,y<A.cs.length->Yj l rt (if y=x then cr else raw y) ((jh A x ca).c y):=by
 intro y hy;rw [kV]
 by_cases e:y=x
 ·simp only [e,hx,and_self,if_true];exact hc
 ·simp only [e,false_and,if_false];exact h y hy
theorem Jv {A:NS} {x:Nat} {c:Cl} (h:Int) (hx:x<A.cs.length) (hz:(A.c x).i=0) (hc:0<c.i) (q:Int):(if q=c.i then some ((dZ A c.i:Int)+1) else jF A q)=jF (jh A x c) q:=by
 have:=nL A x c q hx;rw [hz] at this;unfold jF
 by_cases e:q=c.i
 ·subst e;rw [if_pos rfl];rw [if_neg ω,if_pos ⟨rfl,hc⟩] at this;simp only [Nat.add_zero] at this;rw [if_pos ω,this];simp
 ·rw [if_neg e];rw [if_neg ω,if_neg ω] at this;simp only [Nat.add_zero] at this;rw [this]
theorem oC {w:World} {c st:Nat} {F:List Nat} {A:NS} (h:aG w c F A st) (hh x:Nat) (k s:Int) (hk:-9223372036854775808<=k/\k<=9223372036854775807/\0<=s/\s<=18446744073709551615) (hB:oF A hh x=true) :
  Calls Tryz.prog 154 #[.pointer (some ⟨c,0,none⟩),.int .i64 (hh:Int),.int .i64 (x:Int),.agg #[.int .i64 k,.int .u64 s]] w fun e w'=>e=.returned (.bool true)/\aG w' c F (aN A hh x k s) st/\aa F w w':=by
 have k1:=fun W hW=>jN (h.aA (w':=W) hW) hh;have k2:=fun W hW=>zi (h.aA (w':=W) hW) x;have k3:=fun W hW=>qJ (h.aA (w':=W) hW) x;have hu:aa [] w (w.alloc (.cells #[.int .i64 k,.int .u64 s] 129)):=(aa.refl _ _).alloc _;have hp:=(fE _ _ _).1 hB;rw [hp.1] at k1;rw [hp.2.1] at k2;rw [hp.2.2] at k3;have hx:=(ic _ _).1 hp.2.1;have EU:=(aT _ _).1 hp.1;have hAz:(A.c x).i<=0:=by have:=hp.2.2;unfold bX at this;rw [hp.2.1] at this;simpa using this
 have hin:(A.c x).i=0:=by have:=h.ok.nat x ω;omega
 have hlen:=Dt h.ok (hh:Int);have hA1:=h.ok.h1;have hA2:=h.ok.c1;obtain ⟨ca,nm,mb,g,cap,l,rt,dp,raw,h,rfl⟩:=h;have c1:=h.c1;have c3:=h.c3;have d0:=h.row.cell (x*3) ω;have d1:=h.row.cell (x*3+1) ω;have d2:=h.row.cell (x*3+2) ω;have f0:=h.row.free (x*3);have f1:=h.row.free (x*3+1);have f2:=h.row.free (x*3+2);have hlt:=aG.lt ⟨ca,nm,mb,g,cap,l,rt,dp,raw,h,rfl⟩;have l1:=hlt c σ;have l2:=hlt ca σ;have l3:=hlt mb σ;have hs:=h.sep;have H:=χ h;have HP:=χ hp;clear h hp hB hlt;obtain ⟨len,hle⟩:∃n,n=A.cs.length:=⟨_,rfl⟩;rw [←hle] at c1 hx;have HL:=χ hle;clear hle;have hx2:x<len:=ω
 go_enter Tryz.func154,Tryz.ntmps154
 go_wp2_with (first|(go_at_call 139;(with_reducible refine ((k1 _ hu)).mono ?_);rintro e w9 ⟨rfl,aM⟩;rw [aM];clear aM w9)|(go_at_call 160;(with_reducible refine ((k2 _ hu)).mono ?_);rintro e w9 ⟨rfl,aM⟩;rw [aM];clear aM w9)|(go_at_call 149;(with_reducible refine ((k3 _ hu)).mono ?_);rintro e w9 ⟨rfl,aM⟩;rw [aM];clear aM w9))
 go_region
 go_wp2_with (first
  | (at_lookup;refine lL rfl _ _ rfl mb (jF A) rfl (H.out.many.upd (S:=[ca]) β ι) (hh:Int) rfl ω (dZ A (hh:Int):Int) (uD _ _) ?_)
  | (at_mapUpdate;refine mK rfl _ _ _ rfl mb (jF A) rfl (H.out.many.upd (S:=[ca]) β ι) (hh:Int) ((dZ A (hh:Int):Int)+1) rfl rfl ω ω ?_;intro w2 hm2 hu2))
 go_ret;have hu3:aa [ca] w ((((w.setCell ⟨ca,x*3,none⟩ (.int .i64 (hh:Int))).setCell ⟨ca,x*3+1,none⟩ (.int .i64 k)).setCell ⟨ca,x*3+2,none⟩ (.int .u64 s)).alloc (.cells #[.int .i64 k,.int .u64 s] 129)).drew:=β;have hr3:=((row3 (i:=x) H.out.row ⟨(hh:Int),k,s⟩).upd ((aa.refl [] _).alloc (.cells #[.int .i64 k,.int .u64 s] 129) |>.drew) σ).upd hu2 ι;have iC:aa [ca,mb] w w2:=(hu3.mono ι).joined hu2 (fun y hy=>Or.inl (by simp at hy;simp [hy]));have hrt:=H.out.Zv HP.out.1;have hxl:x<A.cs.length:=by rw [←HL.out];exact hx2
 have e:aN A (hh:Int) (x:Int) k s=jh A x ⟨(hh:Int),k,s⟩:=by unfold aN;rw [if_pos ((fE _ _ _).2 HP.out)];simp
 refine ⟨rfl,⟨ca,nm,mb,g,cap,l,rt,dp,fun y=>if y=x then ⟨(hh:Int),k,s⟩ else raw y,?_,rfl⟩,iC.mono ι⟩;rw [e];refine H.out.turn iC hr3 (hm2.ext (fun q=>Jv (c:=⟨(hh:Int),k,s⟩) (hh:Int) hxl hin (by show 0<(hh:Int);omega) q)) (by rw [←e];exact yY H.out.ok _ _ _ _ hk) (fO _ _ _) rfl (zM H.out.rel hxl (Or.inr ⟨by show 1<=(hh:Int);omega,by show (hh:Int)<l.length;omega,by rw [π,hrt.2.2.1]⟩))
theorem mi {w:World} {c st:Nat} {F:List Nat} {A:NS} (h:aG w c F A st) (x:Int) (hx:bX A x=false) :
  Calls Tryz.prog 137 #[.pointer (some ⟨c,0,none⟩),.int .i64 x] w fun e w'=>e=.returned (.tuple #[.agg #[.int .i64 0,.int .u64 0],.bool false])/\aa [] w w':=by
 have hu:aa [] w (w.alloc (.cells #[.int .i64 0,.int .u64 0] 129)):=(aa.refl _ _).alloc _;have k:=qJ (h.aA hu) x;rw [hx] at k;clear h hx
 go_enter Tryz.func137,Tryz.ntmps137
 go_wp2_with ((go_at_call 149;(with_reducible refine (k).mono ?_);rintro e w9 ⟨rfl,aM⟩;rw [aM];clear aM w9))
 exact bodyPost_ret (v:=.tuple #[.agg #[.int .i64 0,.int .u64 0],.bool false]) (by simp [results,Tryz.results137,go_sem]) rfl ⟨rfl,ξ⟩
theorem kN {w:World} {c st:Nat} {F:List Nat} {A:NS} (h:aG w c F A st) (x:Nat) (hx:bX A x=true) :
  Calls Tryz.prog 137 #[.pointer (some ⟨c,0,none⟩),.int .i64 (x:Int)] w fun e w'=>e=.returned (.tuple #[.agg #[.int .i64 (A.c x).k,.int .u64 (A.c x).s],.bool true])/\aa [] w w':=by
 have hu:aa [] w (w.alloc (.cells #[.int .i64 0,.int .u64 0] 129)):=(aa.refl _ _).alloc _;have k:=qJ (h.aA hu) x;rw [hx] at k;obtain ⟨hx1,hx2⟩:=(ai _ _).1 hx;obtain ⟨ca,nm,mb,g,cap,l,rt,dp,raw,h,rfl⟩:=h;have e:A.c x=⟨rt (raw x).i.toNat,(raw x).k,(raw x).s⟩:=by
  rcases h.rel x hx1 with ⟨h1,h2⟩|⟨h1,h2,h3⟩
  ·rw [h2] at hx2;exact absurd hx2 δ
  ·exact h3
 rw [e];have c1:=h.c1;have d1:=h.row.cellAt (x*3+1) ω (yR raw x);have d2:=h.row.cellAt (x*3+2) ω (yT raw x);have hA:=h.ok.c1;have l1:=h.head.lt;have l2:=h.row.lt;clear h hx hx2 e
 go_enter Tryz.func137,Tryz.ntmps137
 go_wp2_with ((go_at_call 149;(with_reducible refine (k).mono ?_);rintro e w9 ⟨rfl,aM⟩;rw [aM];clear aM w9))
 exact bodyPost_ret (v:=.tuple #[.agg #[.int .i64 (raw x).k,.int .u64 (raw x).s],.bool true]) (by simp [results,Tryz.results137,go_sem]) rfl ⟨rfl,ξ⟩
theorem CM.Ze {w:World} {c ca nm mb g cap:Nat} {l l':List Int} {rt dp:Nat->Nat} {raw:Nat->Cl} {A:NS} {st:Nat} (h:CM w c ca nm mb g cap l rt dp raw A st) {w':World} (hN:kS w' nm g cap l') (ok:rJ l' rt dp) (hl:l'.length=l.length) (hu:aa [g] w w') :
  CM w' c ca nm mb g cap l' rt dp raw A st:=by
 have s:=h.sep;refine ⟨h.head.upd hu ι,h.row.upd hu ι,hN,h.many.upd hu ι,ok,h.ok,h.pI,by rw [hl];exact h.rel,by rw [hl];exact h.hlen,fun i h1 h2=>?_,s⟩;rw [hl] at h2;rw [h.has i h1 h2,decide_eq_decide,h.Qc.RB h1 h2,ok.RB h1 (by rw [hl];exact h2)]
theorem eB {w:World} {c st:Nat} {F:List Nat} {A:NS} (h:aG w c F A st) (x:Nat) (hx:bX A x=true) :
  Calls Tryz.prog 140 #[.pointer (some ⟨c,0,none⟩),.int .i64 (x:Int)] w fun e w'=>e=.returned (.tuple #[.int .i64 (A.c x).i,.bool true])/\aG w' c F A st/\aa F w w':=by
 have k:=qJ h x;rw [hx] at k;obtain ⟨hx1,hx2⟩:=(ai _ _).1 hx;obtain ⟨ca,nm,mb,g,cap,l,rt,dp,raw,h,rfl⟩:=h;have e:1<=(raw x).i/\(raw x).i<l.length/\A.c x=⟨rt (raw x).i.toNat,(raw x).k,(raw x).s⟩:=by
  rcases h.rel x hx1 with ⟨h1,h2⟩|h3
  ·rw [h2] at hx2;exact absurd hx2 δ
  ·exact h3
 obtain ⟨r,hr⟩:∃r:Nat,(raw x).i=r:=⟨(raw x).i.toNat,ω⟩;rw [e.2.2,hr,π];have c1:=h.c1;have c2:=h.c2;have d0:=h.row.cellAt (x*3) ω (Mi raw x);rw [hr] at d0 e;have hA:=h.ok.c1;have hs:=h.sep;have H:=χ h;have hr1:1<=r:=ω;have hr2:r<l.length:=ω;clear h hx hx2 e hr
 go_enter Tryz.func140,Tryz.ntmps140
 go_wp2_with ((go_at_call 149;(with_reducible refine (k).mono ?_);rintro e w9 ⟨rfl,aM⟩;rw [aM];clear aM w9))
 have r1:∀W,aa [g] w W->W.cell? ⟨c,1,none⟩=some (.slice (some ⟨ca,0,none⟩) A.cs.length A.cs.length):=fun W hW=>by rw [hW.cell H.out.head.lt ι];exact c1
 have r2:∀W,aa [g] w W->W.cell? ⟨c,2,none⟩=some (.pointer (some ⟨nm,0,none⟩)):=fun W hW=>by rw [hW.cell H.out.head.lt ι];exact c2
 have r3:∀W,aa [g] w W->W.cell? ⟨ca,x*3,none⟩=some (.int .i64 (r:Int)):=fun W hW=>by rw [hW.cell H.out.row.lt ι];exact d0
 go_region_held3 (aa [g] w) (exact η)
  ((go_at_call 153;(with_reducible refine (OV nm g cap l rt dp r _ (H.out.WN.upd (S:=[]) β σ σ) H.out.Qc hr1 hr2).mono ?_);rintro e w1 ⟨l',rfl,hN,hok,hlen,hu⟩;have hu':aa [g] w w1:=(by first|exact hu|exact ((aa.refl [g] w).drew.trans hu)|exact ((aa.refl [g] w).drewN _ |>.trans hu))))
 go_wp2;go_ret2;exact ⟨rfl,⟨ca,nm,mb,g,cap,l',rt,dp,raw,H.out.Ze hN hok hlen hu',rfl⟩,hu'.mono ι⟩
end Go.Proofs.YtklibcncmbofpaaGreat
