/-
  Lemmas for PathBest: Way, Way2. Conditions: those of each lemma.
-/
import Derived.Deep.MidRow
import Derived.Test.YtklibcncmbofpaaGreatB38
set_option linter.all false
set_option maxHeartbeats 8000000
set_option maxRecDepth 10000
namespace Go.Proofs.YtklibcncmbofpaaGreat
open Go Go.RowKit
def uY (N:Int) (E:List Ed) (D B:List Int) (v:Int):Bool:=
 fU N E && ((D.length:Int) == N) && ((B.length:Int) == N) && decide (0<=v) && decide (v<N) && (D.getD v.toNat 0 != 9223372036854775807)
def zR (E:List Ed) (B:List Int):Nat->Nat->List Int->Option (List Int)
 | 0,_,_=>none
 | k+1,v,out=>if B.getD v 0=-1 then some out else if B.getD v 0<0\/(E.length:Int)<=B.getD v 0\/(E.getD (B.getD v 0).toNat default).t≠v then none else zR E B k (E.getD (B.getD v 0).toNat default).f.toNat (B.getD v 0::out)
def TG (N:Int) (E:List Ed) (D B:List Int) (v:Int):Option (List Int):=if uY N E D B v then zR E B N.toNat v.toNat [] else none
theorem MV (E:List Ed) (B:List Int) (v:Nat) (out:List Int):zR E B 0 v out=none:=rfl
theorem Fp {E:List Ed} {B:List Int} {k v:Nat} {out:List Int} (h:B.getD v 0=-1):zR E B (k+1) v out=some out:=by
 show (if _ then _ else _)=_
 rw [if_pos h]
theorem Lp {E:List Ed} {B:List Int} {k v:Nat} {out:List Int} (h:B.getD v 0≠-1) (h2:B.getD v 0<0\/(E.length:Int)<=B.getD v 0\/(E.getD (B.getD v 0).toNat default).t≠v):zR E B (k+1) v out=none:=by
 show (if _ then _ else _)=_
 rw [if_neg h,if_pos h2]
theorem CE {E:List Ed} {B:List Int} {k v i:Nat} {out:List Int} (h:B.getD v 0=(i:Int)) (h1:i<E.length) (h2:(E.getD i default).t=v):zR E B (k+1) v out=zR E B k (E.getD i default).f.toNat ((i:Int)::out):=by
 show (if _ then _ else _)=_
 rw [if_neg ω,h,if_neg (by rw [show ((i:Nat):Int).toNat=i by omega];omega),show ((i:Nat):Int).toNat=i by omega]
theorem Om (w:World) (N v:Int) (va vd vb:Value) (E:List Ed) (D B:List Int) (hE:Bi w va E) (hD:iw w [] vd D) (hB:iw w [] vb B) :
  Calls Tryz.prog 57 #[.agg #[.int .i64 N,va],.agg #[vd,vb],.int .i64 v] w fun e w'=>e=.returned (.bool (uY N E D B v))/\aa [] w w':=by
 have kc:=fun W (hW:aa [] w W)=>vM W N va E (hE.upd hW);obtain ⟨a,cap,rfl,hcap⟩:=hE.shape;obtain ⟨ad,MF,rfl,_,hcd,hcD⟩:=hD;obtain ⟨ab,Hu,rfl,_,hcb,_⟩:=hB;have hcl:∀x:Nat,v=x->x<D.length->∃g off,ad=some ⟨g,off,none⟩/\w.cell? ⟨g,off+x,none⟩=some (.int .i64 (D.getD x 0)):=fun x hv hx=>by
  obtain ⟨g,off,e,h1,h2,h3⟩:=hcD x (D.getD x 0) (by simp [φ,hx]);exact ⟨g,off,e,h3⟩
 clear hE hcD;unfold uY;generalize hnd:D.length=nd at *;generalize B.length=nb at *;generalize E.length=ne at *;cases hr:fU N E with
 | false=>
  rw [hr] at kc;simp only [Bool.false_eq_true,if_false] at kc;simp only [Bool.false_and]
  go_enter Tryz.func57,Tryz.ntmps57
  go_wp2_with (first|((go_at_call 74;(with_reducible refine (kc _ β).mono ?_));rintro e w1 ⟨rfl,hu1⟩)|fail)
  go_ret;exact ⟨rfl,aa.trans β hu1⟩
 | true=>
  rw [hr] at kc;simp only [if_true] at kc;simp only [Bool.true_and];cases h1:((nd:Int) == N) with
  | false=>
   simp only [Bool.false_and]
   go_enter Tryz.func57,Tryz.ntmps57
   go_wp2_with (first|((go_at_call 74;(with_reducible refine (kc _ β).mono ?_));rintro e w1 ⟨rfl,hu1⟩;(have q0:w1.cell? ⟨w.heap.size,0,none⟩=some (.int .i64 N):=hu1.was γ);(have q2:w1.cell? ⟨w.heap.size+1,0,none⟩=some (.slice ad nd MF):=hu1.was γ))|fail)
   go_ret;exact ⟨rfl,aa.trans β hu1⟩
  | true=>
   simp only [Bool.true_and];cases h2:((nb:Int) == N) with
   | false=>
    simp only [Bool.false_and]
    go_enter Tryz.func57,Tryz.ntmps57
    go_wp2_with (first|((go_at_call 74;(with_reducible refine (kc _ β).mono ?_));rintro e w1 ⟨rfl,hu1⟩;(have q0:w1.cell? ⟨w.heap.size,0,none⟩=some (.int .i64 N):=hu1.was γ);(have q2:w1.cell? ⟨w.heap.size+1,0,none⟩=some (.slice ad nd MF):=hu1.was γ);(have q3:w1.cell? ⟨w.heap.size+1,1,none⟩=some (.slice ab nb Hu):=hu1.was γ))|fail)
    go_ret;exact ⟨rfl,aa.trans β hu1⟩
   | true=>
    simp only [Bool.true_and]
    by_cases h3:0<=v
    ·rw [decide_eq_true h3];simp only [Bool.true_and]
     by_cases h4:v<N
     ·rw [decide_eq_true h4];simp only [Bool.true_and];have h1':(nd:Int)=N:=by simpa using h1
      obtain ⟨x,rfl⟩:∃x:Nat,v=x:=⟨v.toNat,ω⟩;obtain ⟨g,off,rfl,hc⟩:=hcl x rfl ω;rw [show ((x:Nat):Int).toNat=x by omega];have rO:(x:Int)<(nd:Int):=ω;generalize D.getD x 0=dv at *
      go_enter Tryz.func57,Tryz.ntmps57
      go_wp2_with (first|((go_at_call 74;(with_reducible refine (kc _ β).mono ?_));rintro e w1 ⟨rfl,hu1⟩;(have q0:w1.cell? ⟨w.heap.size,0,none⟩=some (.int .i64 N):=hu1.was γ);(have q2:w1.cell? ⟨w.heap.size+1,0,none⟩=some (.slice (some ⟨g,off,none⟩) nd MF):=hu1.was γ);(have q3:w1.cell? ⟨w.heap.size+1,1,none⟩=some (.slice ab nb Hu):=hu1.was γ);(have q4:=hu1.was (((aa.refl [] w).alloc _ |>.alloc _).was hc)))|fail)
      go_ret;exact ⟨rfl,aa.trans β hu1⟩
     ·rw [decide_eq_false h4];simp only [Bool.false_and];have h4':decide (v<N)=false:=decide_eq_false h4
      go_enter Tryz.func57,Tryz.ntmps57
      go_wp2_with (first|((go_at_call 74;(with_reducible refine (kc _ β).mono ?_));rintro e w1 ⟨rfl,hu1⟩;(have q0:w1.cell? ⟨w.heap.size,0,none⟩=some (.int .i64 N):=hu1.was γ);(have q2:w1.cell? ⟨w.heap.size+1,0,none⟩=some (.slice ad nd MF):=hu1.was γ);(have q3:w1.cell? ⟨w.heap.size+1,1,none⟩=some (.slice ab nb Hu):=hu1.was γ))|fail)
      go_ret;exact ⟨rfl,aa.trans β hu1⟩
    ·rw [decide_eq_false h3];simp only [Bool.false_and]
     go_enter Tryz.func57,Tryz.ntmps57
     go_wp2_with (first|((go_at_call 74;(with_reducible refine (kc _ β).mono ?_));rintro e w1 ⟨rfl,hu1⟩;(have q0:w1.cell? ⟨w.heap.size,0,none⟩=some (.int .i64 N):=hu1.was γ);(have q2:w1.cell? ⟨w.heap.size+1,0,none⟩=some (.slice ad nd MF):=hu1.was γ);(have q3:w1.cell? ⟨w.heap.size+1,1,none⟩=some (.slice ab nb Hu):=hu1.was γ))|fail)
     go_ret;exact ⟨rfl,aa.trans β hu1⟩
theorem wP (g:Nat):∀ (vs:List Value) (o:Nat) (w:World),aa [g] w (w.setCells g o vs)
 | [],_,_=>aa.refl _ _
 | v::vs,o,w=>((aa.refl [g] w).setCell (Or.inl σ) v).trans (wP g vs (o+1) _)
theorem Fu {w:World} {base n:Nat} {a:Option Addr} {c:Nat} {l:List Int} (h:w.ownsRow base 3 1 (.slice a n c) n (aU l)) (hn:n<=1000000) :
  Calls Tryz.prog 58 #[.slice a n c] w fun e w'=>e=.returned (.tuple #[])/\iw w' [] (.slice a n c) l.reverse/\aa (Value.slice a n c).ownBlock.toList w w':=by
 have hl:l.length=n:=by have:=h.1;rw [fG] at this;omega
 by_cases h0:n=0
 ·subst h0;have e:l=[]:=List.eq_nil_of_length_eq_zero hl;subst e;refine (Tryz.slices_Reverse_int_empty a c w).mono ?_;rintro e w' ⟨rfl,rfl⟩;obtain ⟨a',c',he,hc⟩:=bu h;cases he;exact ⟨rfl,⟨a,c,rfl,σ,hc,fun j u hj=>by simp at hj⟩,aa.refl _ _⟩
 ·obtain ⟨g,cap,e,hI,hb, -⟩:=IE.iY h ω;cases e;have hcap:=hI.cap;have hcs:∀j,j<l.length->w.cell? ⟨g,0+j,none⟩=some (.int .i64 (l.getD j 0)):=fun j hj=>by rw [Nat.zero_add];exact hI.cell j hj
  refine (Tryz.slices_Reverse_int_cells g 0 n c l w ω ω hcs (fun j hj=>hI.free _)).mono ?_;rintro e w' ⟨rfl,q,rfl⟩;have hu:aa [g] w ((w.drewN q).setCells g 0 ((l.take n).reverse.map (Value.int .i64))):=((aa.refl [g] w).drewN q).trans (wP g _ 0 _);refine ⟨rfl,⟨some ⟨g,0,none⟩,c,by simp [hl],ζ,hcap.2,fun j u hj=>⟨g,0,rfl,Nat.lt_of_lt_of_le hI.lt hu.size,σ,?_⟩⟩,hu⟩;rw [List.take_of_length_le ω];refine World.rangeAt_setCells_same (w.drewN q) g 0 (l.reverse.map (Value.int .i64)) (fun k hk=>?_) j _ (by rw [List.getElem?_map,hj];rfl);simp at hk;have h1:=hcs k ω;have h2:=hI.free (0+k)
  exact ⟨by show (w.cell? ⟨g,0+k,none⟩).isSome=true;rw [h1];rfl,h2⟩
theorem SC (w:World) (N v:Int) (va vd vb:Value) (E:List Ed) (D B:List Int) (hE:Bi w va E) (hD:iw w [] vd D) (hB:iw w [] vb B) :
  Calls Tryz.prog 33 #[.agg #[.int .i64 N,va],.agg #[vd,vb],.int .i64 v] w fun e w'=>∃vo,e=.returned (.tuple #[vo,.bool (TG N E D B v).isSome])/\iw w' [] vo ((TG N E D B v).getD [])/\aa [] w w':=by
 have kk:=fun W (hW:aa [] w W)=>Om W N v va vd vb E D B (hE.upd hW) (hD.fresh hW (F':=[]) (fun g hg=>Or.inl hg)) (hB.fresh hW (F':=[]) (fun g hg=>Or.inl hg));unfold TG;obtain ⟨a,cap,rfl,hcap⟩:=hE.shape;obtain ⟨ad,MF,rfl,_,hcd,_⟩:=hD;obtain ⟨ab,Hu,rfl,hcb0,hcb,hcB⟩:=hB;cases hk:uY N E D B v with
 | false=>
  rw [hk] at kk;rw [if_neg σ];simp only [Option.isSome_none,Option.getD_none];clear hE hcB hk;generalize E.length=n at *;generalize D.length=nd at *;generalize B.length=nb at *
  go_enter Tryz.func33,Tryz.ntmps33
  go_wp2_with (first|((go_at_call 57;(with_reducible refine (kk _ β).mono ?_));rintro e w1 ⟨rfl,hu1⟩)|fail)
  exact bodyPost_ret (v:=.tuple #[.slice none 0 0,.bool false]) (by simp [results,Tryz.results33,go_sem]) rfl ⟨.slice none 0 0,rfl,⟨none,0,rfl,σ,ω,fun j u hj=>by simp at hj⟩,aa.trans β hu1⟩
 | true=>
  rw [hk] at kk;rw [if_pos rfl];unfold uY at hk;simp only [Bool.and_eq_true,decide_eq_true_eq,beq_iff_eq,bne_iff_ne,ne_eq] at hk;obtain ⟨⟨⟨⟨⟨hr,h1⟩,h2⟩,h3⟩,h4⟩, -⟩:=hk;obtain ⟨n,rfl⟩:∃n:Nat,N=n:=⟨N.toNat,ω⟩;obtain ⟨x,rfl⟩:∃x:Nat,v=x:=⟨v.toNat,ω⟩;have hbd:=nS hr;simp only [π];have HX:=χ (ψ hE (ψ hcB hr));have hn16:n<=4096:=ω;have rO:x<n:=ω;have hBn:B.length=n:=ω;have hDn:D.length=n:=ω;have HB:=χ hBn;have YP:E.length<=65536:=hbd.2.2;rw [hBn,hDn] at kk;rw [hBn,hDn];clear hE hcB hr hbd h1 h2 h3 h4 hDn hBn hcb0;generalize hne:E.length=ne at *;have HN:=χ hne;clear hne
  have hww:∃r,zR E B n x []=r:=⟨_,rfl⟩;obtain ⟨r,hwr⟩:=hww;rw [hwr];have HW:=χ hwr;clear hwr
  go_enter Tryz.func33,Tryz.ntmps33
  go_upto_region 5 with (first|((go_at_call 57;(with_reducible refine (kk _ β).mono ?_));rintro e w1 ⟨rfl,hu1⟩;(have q0:w1.cell? ⟨w.heap.size,0,none⟩=some (.int .i64 (n:Int)):=hu1.was γ);(have q1:w1.cell? ⟨w.heap.size,1,none⟩=some (.slice a ne cap):=hu1.was γ);(have q2:w1.cell? ⟨w.heap.size+1,1,none⟩=some (.slice ab n Hu):=hu1.was γ);(have hw1:aa [] w w1:=aa.trans β hu1))|fail)
  have hs1:=hw1.size;clear kk hu1
  go_loopw [2,8,9,17] (fun vv ov _ kv wr=>∃ (k x':Nat) (o:List Int) (ao:Option Addr) (co:Nat),k<=n/\kv=.int .i64 (k:Int)/\vv=.int .i64 (x':Int)/\ov=.slice ao k co/\wr.ownsRow w1.heap.size 3 1 (.slice ao k co) k (aU o)/\x'<n/\zR E B (n-k) x' o.reverse=r/\aa [] w1 wr) (fun _ _ _ kv _=>n-(intOf kv).toNat)
  case atStart=>exact ⟨0,x,[],none,0,ω,rfl,rfl,rfl,⟨rfl,Or.inl ⟨rfl,rfl⟩⟩,rO,HW.out,aa.refl _ _⟩
  case round=>
   obtain ⟨k,y,o,ao,co,hkn,rfl,rfl,rfl,ho,hyn,hwf,hu⟩:=hrel;rename World=>wr;have q0':=hu.was q0;have q1':=hu.was q1;have q2':=hu.was q2;have hwk:IntKind.i64.wrap ((k:Int)+1)=(k:Int)+1:=IntWalk.i64_in _ ω
   by_cases hk:k<n
   ·have Zn:(k:Int)<(n:Int):=ω;have ZM:(y:Int)<(n:Int):=ω;obtain ⟨m,hm⟩:∃m,n-k=m+1:=⟨n-k-1,ω⟩;rw [hm] at hwf;obtain ⟨gb,ob,rfl,hgb, -,cb'⟩:=HX.out.2.1 y (B.getD y 0) (by simp [φ,HB.out,hyn]);have cb:=(hw1.trans hu).was cb';have HO:=χ (ψ ho (ψ hwf hu));have hos:=hu.size;clear hwf cb'
    by_cases hi1:B.getD y 0=-1
    ·have HI:=χ hi1;rw [hi1] at cb;have kr:=Fu ho ω;have zo:=ho.lt;clear ho hi1
     go_wp2_with (first|((go_at_call 58;(with_reducible refine (kr).mono ?_));rintro e w3 ⟨rfl,Pw,hu3⟩)|fail)
     obtain ⟨ho,hwf,hu⟩:=HO.out;rw [Fp HI.out] at hwf;exact bodyPost_ret (v:=.tuple #[.slice ao k co,.bool true]) (by simp [results,Tryz.results33,go_sem]) rfl ⟨.slice ao k co,by rw [←hwf];rfl,by rw [←hwf];exact Pw,(hw1.trans hu).joined hu3 (fun z hz=>Or.inr (by have:=(zo z (by simpa using hz)).1;omega))⟩
    ·have hib:(B.getD y 0 == -1)=false:=by simpa using hi1
     by_cases hlo:B.getD y 0<0\/(ne:Int)<=B.getD y 0
     ·have hl2:B.getD y 0<0\/(¬ (B.getD y 0<0)/\B.getD y 0≥(ne:Int)):=ω;have hno:=HO.out.2.1;rw [Lp hi1 (by rw [HN.out];rcases hlo with h|h;exact Or.inl h;exact Or.inr (Or.inl h))] at hno;have XQ:=χ hno;clear hno ho hlo hi1;generalize B.getD y 0=bi at *;rcases hl2 with h|⟨h,h'⟩
      ·have hg1:decide (bi<0)=true:=by simpa using h
       go_wp2;exact bodyPost_ret (v:=.tuple #[.slice none 0 0,.bool false]) (by simp [results,Tryz.results33,go_sem]) rfl ⟨.slice none 0 0,by rw [←XQ.out];rfl,by rw [←XQ.out];exact ⟨none,0,rfl,σ,ω,fun j u hj=>by simp at hj⟩,hw1.trans HO.out.2.2⟩
      ·have hg0:¬bi<0:=h;have hg1:decide (bi<0)=false:=by simpa using hg0
       have hg2:decide (bi≥(ne:Int))=true:=by simpa using h'
       clear h;go_wp2;exact bodyPost_ret (v:=.tuple #[.slice none 0 0,.bool false]) (by simp [results,Tryz.results33,go_sem]) rfl ⟨.slice none 0 0,by rw [←XQ.out];rfl,by rw [←XQ.out];exact ⟨none,0,rfl,σ,ω,fun j u hj=>by simp at hj⟩,hw1.trans HO.out.2.2⟩
     ·obtain ⟨i0,hi0⟩:∃i0:Nat,B.getD y 0=i0:=⟨(B.getD y 0).toNat,ω⟩;have hil:i0<E.length:=by rw [HN.out];omega
      have hin:(i0:Int)<(ne:Int):=ω;have hnl:¬i0≥ne:=ω;obtain ⟨ge,off,rfl,hg,c0',c1', -⟩:=HX.out.1.at i0 hil;have c0:=(hw1.trans hu).was c0';have c1:=(hw1.trans hu).was c1';have hgel:ge<w1.heap.size:=Nat.lt_of_lt_of_le hg hs1;have h3:=gY HX.out.2.2 (List.mem_of_getElem? (show E[i0]?=some (E.getD i0 default) by simp [φ,hil]));rw [hi0] at cb hib;have hwfn:=HO.out.2.1
      by_cases ht:(E.getD i0 default).t=y
      ·rw [CE hi0 hil ht] at hwfn;have HI:=χ (ψ hwfn (ψ hi0 ht));rw [ht] at c1;clear hwfn hi0 ht c0' c1' hlo hi1;obtain ⟨f0,hf0⟩:∃f0:Nat,(E.getD i0 default).f=f0:=⟨(E.getD i0 default).f.toNat,ω⟩;rw [hf0] at c0;have HF:=χ (ψ hf0 (show f0<n by omega));have hb2:w1.heap.size<=wr.heap.size:=hos;clear hf0 h3;generalize E.getD i0 default=ed at *
       go_wp2_with (first|((at_builtin;refine aW rfl _ _ 26 rfl w1.heap.size 3 (.int .i64 0) 1 8 Tryz.underlying26 fK rfl δ _ _ _ rfl (ho) [.int .i64 (i0:Int)] rfl (by simp [Value.oneCell']) (by first|rfl|(rw [World.size_alloc];rfl)) μ ω (ω) ?_;intro v2 w2 ho2 hu2 mW);(obtain ⟨a2,c2,rfl,hc2⟩:=bu ho2);(have hv2:aa [] w1 w2:=HO.out.2.2.own ho (Nat.le_refl _) hu2);(have p0:=hv2.was q0);(have p1:=hv2.was q1);(have p2:=hv2.was q2);(have X9:ge∉(Value.slice ao k co).ownBlock.toList:=fun hm=>by (have h9:=(ho.lt ge (Option.mem_toList.1 hm)).1);omega);(have c0':=hu2.kept c0 X9))|fail)
       go_roundw
       case rel=>
        have hwfn:=HI.out.1;have e1:n-(k+1)=m:=ω;refine ⟨k+1,f0,o++[(i0:Int)],a2,c2,ω,by go_num,rfl,rfl,by rw [bN];exact ho2,HF.out.2,?_,hv2⟩;rw [e1,List.reverse_append,List.reverse_singleton,List.singleton_append];rw [HF.out.1] at hwfn;simpa using hwfn
       case measure=>simp [intOf];omega
      ·have hti:((E.getD i0 default).t != (y:Int))=true:=by simpa using ht
       have hno:=HO.out.2.1;rw [Lp hi1 (by rw [hi0,show ((i0:Nat):Int).toNat=i0 by omega];exact Or.inr (Or.inr ht))] at hno;have XQ:=χ hno;clear hno ho hlo hi1 hi0 ht c0 c0' c1' h3 hwfn;generalize (E.getD i0 default).t=t0 at *;go_wp2;exact bodyPost_ret (v:=.tuple #[.slice none 0 0,.bool false]) (by simp [results,Tryz.results33,go_sem]) rfl ⟨.slice none 0 0,by rw [←XQ.out];rfl,by rw [←XQ.out];exact ⟨none,0,rfl,σ,ω,fun j u hj=>by simp at hj⟩,hw1.trans HO.out.2.2⟩
   ·have Zn:¬ (k:Int)<(n:Int):=ω;have e0:n-k=0:=ω;rw [e0,MV] at hwf;have HO:=χ (ψ hwf hu);clear ho hwf;go_wp2;exact bodyPost_ret (v:=.tuple #[.slice none 0 0,.bool false]) (by simp [results,Tryz.results33,go_sem]) rfl ⟨.slice none 0 0,by rw [←HO.out.1];rfl,by rw [←HO.out.1];exact ⟨none,0,rfl,σ,ω,fun j u hj=>by simp at hj⟩,hw1.trans HO.out.2⟩
end Go.Proofs.YtklibcncmbofpaaGreat
