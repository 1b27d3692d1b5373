/-
  Lemmas for RankSorts: Sd9, Dr4. Conditions: those of each lemma.
-/
import Derived.Test.YtklibcncmbofpaaGreatP22
set_option maxHeartbeats 8000000
set_option maxRecDepth 10000
set_option linter.unusedVariables false
set_option linter.unusedSimpArgs false
namespace Go.Proofs.YtklibcncmbofpaaGreat
open Go Go.RowKit
section
variable {w w':World} {B:HB} {F Z:List Nat} {gr cr st:Nat} {A:NS} {ptr:Nat→Option Nat} {G L:Nat→List Nat} {T:List Nat}
theorem OZ.turn {A':NS} {g:Nat} {l T':List Nat} (h:OZ A L T) (hd:ow 2 A' (iE L g l)) (hh:∀k:Nat,aY A' k=aY A k) (hg:aY A g=true) (hl:∀j x,l[j]?=some x→T'.getD x 0=j) (ho:∀x,x∉l→x∉L g→T'.getD x 0=T.getD x 0) (hm:∀k x,k≠g→aY A k=true→x∈L k→x∉l∧x∉L g):OZ A' (iE L g l) T':=by
 refine ⟨hd,fun k hk j x hj=>?_⟩
 rw [hh] at hk
 by_cases e:k=g
 ·subst e;rw [bW] at hj;exact hl j x hj
 ·rw [bq _ _ e] at hj;have hx:=hm k x e hk (List.mem_of_getElem? hj);rw [ho x hx.1 hx.2];exact h.yc k hk j x hj
theorem ow.apart (h:ow 2 A L) {k g x:Nat} (e:k≠g) (hk:aY A k=true) (hg:aY A g=true) (hx:x∈L k):x∉L g:=fun hm=>by
 have h1:=(h.mem k x hk).1 hx;have h2:=(h.mem g x hg).1 hm;omega
def PuR (B:HB) (F Z:List Nat) (gr cr:Nat) (A':NS) (st:Nat) (ptr:Nat→Option Nat) (G L:Nat→List Nat) (T:List Nat) (g rp x:Nat) (v:Value) (w2:World):Prop:=ShM w2 B F Z gr cr A' st ptr G L T∧∀Y,aa [] w2 Y→
   Calls Tryz.prog 279 #[.iface 317 (.pointer (some ⟨rp,0,none⟩)),.iface 3 (.int .i64 (x:Int))] Y fun e w'=>e=.returned (.tuple #[])∧P6 Y B F A' rp v (L g) T x w'
theorem zZ (h:ShAt w B F Z gr A st) (g x:Nat) (k s:Int) (hk:-9223372036854775808≤k∧k≤9223372036854775807∧0≤s∧s≤18446744073709551615) (hB:jy A g x=true) :
  Calls Tryz.prog 273 #[.pointer (some ⟨B.n0,0,none⟩),.int .i64 (g:Int),.int .i64 (x:Int),.agg #[.int .i64 k,.int .u64 s]] w fun e w'=>e=.returned (.bool true)∧Goes (B.blk F Z gr) w w' (fun F'=>∃Z' st',F'=B.blk F Z' gr∧ShAt w' B F Z' gr (aB A g x k s) st'):=by
 obtain ⟨cr,ptr,G,L,T,hM,hI⟩:=h;have hb1:=(cB _ _ _).1 hB;have hgN:=(aK _ _).1 hb1.1;have hok:=hM.cells.ok;have hcs:=hok.c1;obtain ⟨r1,r2,r3,r4,r5⟩:=hI.di.ready ω hok (k:=k) (s:=s) hB;have hA'h:(aB A g x k s).hs=A.hs:=by unfold aB;rw [if_pos hB];rfl
 have hA'c:(aB A g x k s).cs.length=A.cs.length:=by unfold aB;rw [if_pos hB];exact dI _ _ _
 have hhas':aY (aB A g x k s) g=true:=by have:=hb1.1;unfold aY at this ⊢;rw [hA'h];exact this
 have hdom:∀y,y∈L g→bD (aB A g x k s) (y:Int)=true∧y<T.length:=fun y hy=>⟨r4 y (by simp [hy]),by rw [hM.tl];exact r5 y (by simp [hy])⟩
 obtain ⟨rp,hp,v, -, -,hGv, -⟩:=hM.jf.row g hb1.1;have kadd:∀X w2,aa [] w X→az w2 B.c F (aB A g x k s) st→aa F X w2→PuR B F Z gr cr (aB A g x k s) st ptr G L T g rp x v w2:=by
  intro X w2 hX hC2 hu2;have hM2:=(hM.aj hX).bI hu2 hC2 (fun x hx=>Or.inl hx) hA'h hA'c
  refine ⟨hM2,fun Y hY=>?_⟩
  obtain ⟨rp',v',hp',hG',hP⟩:=(hM2.aj hY).pile hhas' hdom (hI.di.nd g hb1.1) (hI.yc g hb1.1);rw [hp] at hp';cases hp';rw [hGv] at hG';have ev:v'.ownBlock.toList=v.ownBlock.toList:=(List.cons.inj hG').2.symm;refine (G9 hP x r1 (r4 x σ) (by rw [hM.tl];exact r5 x σ) (by rw [hM.tl];omega) r3).mono ?_
  rintro e w' ⟨rfl,gs,cap,L',T',q1,q2,q3,q4,q5,q6,q7⟩;refine ⟨rfl,gs,cap,L',T',q1,q2,q3,q4,q5,by rw [←ev];exact q6,?_⟩
  rcases q7 with e|e
  ·left;have:gs∈v.ownBlock.toList:=by rw [←ev];exact Option.mem_toList.2 e
   exact Option.mem_toList.1 this
  ·exact Or.inr e
 have kput:∀W (hW:aa [] w W),Calls Tryz.prog 154 #[.pointer (some ⟨B.c,0,none⟩),.int .i64 (g:Int),.int .i64 (x:Int),.agg #[.int .i64 k,.int .u64 s]] W fun e w2=>e=.returned (.bool true)∧aa F W w2∧PuR B F Z gr cr (aB A g x k s) st ptr G L T g rp x v w2:=fun W hW=>(kV (hM.aj hW).cells g x k s hk hB).mono (fun e w2 h=>by
  obtain ⟨rfl,hC2,hu2⟩:=h
  exact ⟨rfl,hu2,kadd W w2 hW hC2 hu2⟩)
 have c0:=hM.h0;have c2:=hM.h1;have cg:=hM.jf.cell ω hp;have hlt:=hM.lt;have HX:=χ (ψ hM (ψ hI (ψ hok (ψ hB (ψ hp (ψ hhas' (ψ hlt (ψ hGv (ψ hb1.1 (ψ hA'h hA'c))))))))));have n1:B.n0∉F:=hM.aZ.1;have n2:gr∉F:=hM.aZ.2.1;have n3:∀z,z∈F→z<w.heap.size:=fun z hm=>hlt z (by simp only [HB.blk,List.mem_cons,List.mem_append];exact Or.inr (Or.inr (Or.inr (Or.inl hm))))
 have hgI:(g:Int)<(A.hs.length:Int):=ω;clear hM hI hok hB hp hhas' hlt r1 r3 r4 r5 hb1 hgN r2 hcs hA'h hA'c kadd hdom hGv;generalize A.hs.length=m at *
 go_enter Tryz.func273,Tryz.ntmps273
 go_upto_region 1 with (fail)
 refine gB (fun W=>W.cell? ⟨w.heap.size,0,none⟩=some (.int .i64 k)∧W.cell? ⟨w.heap.size,1,none⟩=some (.int .u64 s)∧aa [] w W) ⟨γ,γ,β⟩ ?_
 rintro W ⟨x0,x1,hW⟩;have hb:w.heap.size∉F:=fun hm=>by have:=n3 _ hm;omega
 have e0:∀X,aa F W X→X.cell? ⟨w.heap.size,0,none⟩=some (.int .i64 k):=fun X h=>h.kept x0 hb
 have e1:∀X,aa F W X→X.cell? ⟨w.heap.size,1,none⟩=some (.int .u64 s):=fun X h=>h.kept x1 hb
 have e2:∀X,aa F W X→X.cell? ⟨B.n0,0,none⟩=some (.pointer (some ⟨B.c,0,none⟩)):=fun X h=>h.kept (hW.was c0) n1
 have e3:∀X,aa F W X→X.cell? ⟨B.n0,1,none⟩=some (.slice (some ⟨gr,0,none⟩) m cr):=fun X h=>h.kept (hW.was c2) n1
 have e4:∀X,aa F W X→X.cell? ⟨gr,g,none⟩=some (.pointer (some ⟨rp,0,none⟩)):=fun X h=>h.kept (hW.was cg) n2
 have HW:=χ hW;have kput1:=fun X (hX:aa [] W X)=>kput X (hW.trans hX)
 clear x0 x1 hW kput c0 c2 cg
 go_region_held3 (aa F W) (repeat (first|assumption|exact aa.refl _ _|refine aa.drew ?_|refine aa.alloc ?_ _|refine aa.setCell ?_ ?_ _|focus (left;simp;done)|focus (right;simp;done)|focus (right;simp;omega)|(apply aa.trans;rotate_left;assumption)))
  (first
   | ((go_at_call 154;(with_reducible refine (kput1 _ (by (repeat (first|assumption|exact aa.refl _ _|refine aa.drew ?_|refine aa.alloc ?_ _|refine aa.setCell ?_ ?_ _|focus (left;simp;done)|focus (right;simp;done)|focus (right;simp;omega)|(apply aa.trans;rotate_left;assumption))))).mono ?_));rintro e w2 ⟨rfl,hu2,hM2,kadd2⟩;(have hv2:aa F W w2:=aa.trans (by (repeat (first|assumption|exact aa.refl _ _|refine aa.drew ?_|refine aa.alloc ?_ _|refine aa.setCell ?_ ?_ _|focus (left;simp;done)|focus (right;simp;done)|focus (right;simp;omega)|(apply aa.trans;rotate_left;assumption)))) hu2)))
 have a3:=e3 w2 hv2;have a4:=e4 w2 hv2;have HV:=χ hv2;clear e0 e1 e2 e3 e4 kput1 hv2 hu2
 go_wp2_with (first
  | ((go_at_call 279;(with_reducible refine (kadd2 _ (aa.refl _ _)).mono ?_));rintro e w3 ⟨rfl,hQ⟩)
  | fail)
 go_ret;obtain ⟨hM,hI,hok,hB,hp,hhas',hlt,hGv,hg1,hA'h,hA'c⟩:=HX.out;obtain ⟨gs,cap,L',T',q1,q2,q3,q4,q5,q6,q7⟩:=hQ;have hPE:=q1.any;have hGg:∀z,z∈rp::v.ownBlock.toList→z∈G g:=fun z hz=>by rw [hGv];exact hz
 obtain ⟨st',hM3⟩:=hM2.xh (g:=g) hhas' hp q6 (fun z hz=>by
  simp only [List.mem_cons] at hz;rcases hz with e|e|e|e
  ·exact Or.inl (hGg z (by simp [e]))
  ·exact Or.inr (Or.inl e)
  ·exact Or.inr (Or.inr e)
  ·exact Or.inl (hGg z (List.mem_cons_of_mem _ e))) (hGg rp σ) hPE q5 (fun k hk=>by
  cases hk;rcases q7 with e|e
  ·exact Or.inl (hGg _ (List.mem_cons_of_mem _ (Option.mem_toList.2 e)))
  ·exact Or.inr e)
 have hI3:=hI.di.put ω hok hB q2 q3
 have hsd:OZ (aB A g x k s) (iE L g L') T':=hI.turn hI3.1 (fun q=>by unfold aY;rw [hA'h]) hg1 q1.yc (fun y h1 h2=>q4 y (fun hm=>h1 (q2.mem_iff.2 hm))) (fun q y e hq hy=>by
  have h2:=hI.di.apart e hq hg1 hy;refine ⟨fun hm=>?_,h2⟩
  rcases List.mem_cons.1 (q2.mem_iff.1 hm) with e3|e3
  ·subst e3;have h4:=(hI.di.mem q y hq).1 hy;have h5:=((cB _ _ _).1 hB).2.2;have h6:=(aK _ _).1 hq;rw [(af A y).2 ⟨h4.1,ω⟩] at h5;cases h5
  ·exact h2 e3)
 have hsz:=HW.out.size;have hsz2:=HV.out.size;have hbl:∀z,z∈F→z∈B.blk F Z gr:=fun z hz=>by simp only [HB.blk,List.mem_cons,List.mem_append];exact Or.inr (Or.inr (Or.inr (Or.inl hz)))
 have hbz:∀z,z∈G g→z∈B.blk F Z gr:=fun z hz=>by simp only [HB.blk,List.mem_cons,List.mem_append];exact Or.inr (Or.inr (Or.inr (Or.inr (hM.jf.vE g hg1 z hz))))
 refine ⟨rfl,B.blk F (Z++(rp::Option.toList (some gs))) gr,⟨_,st',rfl,cr,ptr,_,_,T',hM3,hsd⟩,((HW.out.mono σ).trans (HV.out.mono hbl)).trans (q6.mono (fun z hz=>?_)),fun z hz=>?_⟩
 ·simp only [List.mem_cons] at hz;rcases hz with e|e|e|e
  ·exact hbz z (hGg z (by simp [e]))
  ·simp [HB.blk,e]
  ·exact hbl z (by rw [e];exact hM.cells.mem)
  ·exact hbz z (hGg z (List.mem_cons_of_mem _ e))
 ·simp only [HB.blk,List.mem_cons,List.mem_append,Option.toList_some,List.not_mem_nil,or_false] at hz;rcases hz with h|h|h|h|h|h|h
  ·left;simp [HB.blk,h]
  ·left;simp [HB.blk,h]
  ·left;simp [HB.blk,h]
  ·exact Or.inl (hbl z h)
  ·left;simp [HB.blk,h]
  ·exact Or.inl (hbz z (hGg z (by simp [h])))
  ·rcases q7 with e|e
   ·exact Or.inl (hbz z (hGg z (List.mem_cons_of_mem _ (by rw [h];exact Option.mem_toList.2 e))))
   ·exact Or.inr ω
end
theorem ow.FT {d:Nat} {A:NS} {L:Nat→List Nat} (h:ow d A L) (hd:2≤d) {g x i:Nat} {k s:Int} (hB:iy A x k s=true) (hg:aY A g=true) (hx:(L g)[i]?=some x) :
  dD (lU (ak A x k s)) d (L g) i∧Below (lU (ak A x k s)) d (L g) i x:=by
 have hxm:=List.mem_of_getElem? hx;have hm:=(h.mem g x hg).1 hxm;have hc:=pO hB hm.1;have hle:=qA hB;rw [π] at hle;have hn:=h.nd g hg;obtain ⟨hi,hxe⟩:=List.getElem?_eq_some_iff.1 hx;have hcy:∀y,y≠x→(ak A x k s).c y=A.c y:=fun y e=>by rw [hc,if_neg e]
 have hxx:(ak A x k s).c x=⟨(A.c x).i,k,s⟩:=by rw [hc,if_pos rfl]
 have hne:∀y,y∈(L g).eraseIdx i→y≠x:=fun y hy e=>by
  obtain ⟨q,hq,hqe⟩:=List.mem_eraseIdx_iff_getElem?.1 hy;obtain ⟨g1,e1⟩:=List.getElem?_eq_some_iff.1 hqe;exact hq ((List.getElem_inj hn).1 (e1.trans (e.trans hxe.symm)))
 have hH:=h.hp g hg;refine ⟨(hH.hole (fQ A) hd hi).frame (fun a b ha hb hab=>dA.2 ((dJ (hcy a (hne a ha)) (hcy b (hne b hb))).2 (dA.1 hab))) hd,fun j j0 hj hp=>?_⟩
 have h1:=hH j j0 hj;have h2:(L g).getD (par d j) 0=x:=by rw [hp,φ,hx];rfl
 rw [h2] at h1;have hji:j≠i:=fun e=>by have:=cZ hd j0;omega
 have hyx:(L g).getD j 0≠x:=fun e=>by
  have h3:(L g)[j]?=some x:=by rw [←e,φ,List.getElem?_eq_getElem hj];rfl
  obtain ⟨g1,e1⟩:=List.getElem?_eq_some_iff.1 h3;exact hji ((List.getElem_inj hn).1 (e1.trans hxe.symm))
 exact dA.2 (jw (dA.1 h1) (hcy _ hyx) (by rw [hxx];exact hle))
section
variable {w w':World} {B:DB} {F Z:List Nat} {gr cr st:Nat} {A:NS} {ptr:Nat→Option Nat} {G L:Nat→List Nat}
theorem LG (h:lN w B F Z gr A st) (x:Nat) (k s:Int) (hk:-9223372036854775808≤k∧k≤9223372036854775807∧0≤s∧s≤18446744073709551615) (hB:iy A x k s=true) :
  Calls Tryz.prog 135 #[.pointer (some ⟨B.n0,0,none⟩),.int .i64 (x:Int),.agg #[.int .i64 k,.int .u64 s]] w fun e w'=>e=.returned (.bool true)∧Goes (B.blk F Z gr) w w' (fun F'=>∃Z' st',F'=B.blk F Z' gr∧lN w' B F Z' gr (ak A x k s) st'):=by
 obtain ⟨cr,ptr,G,L,hM,hI⟩:=h;have hok:=hM.cells.ok;have hcs:=hok.c1;have hin:=pK hB;have hin2:=(af _ _).1 hin;have hhas:=gN hok hin;rw [π] at hhas;obtain ⟨g,hg⟩:∃g:Nat,(A.c x).i=g:=⟨(A.c x).i.toNat,ω⟩
 rw [hg] at hhas;have hgN:=(aK _ _).1 hhas;have hxm:x∈L g:=(hI.mem g x hhas).2 ⟨hin2.1,hg⟩;obtain ⟨i,hi,hxi⟩:=List.mem_iff_getElem.1 hxm;have hx:(L g)[i]?=some x:=by rw [List.getElem?_eq_getElem hi,hxi]
 obtain ⟨hHo,hBe⟩:=hI.FT hM.dd.1 hB hhas hx;have hA'h:(ak A x k s).hs=A.hs:=jm _ _ _ _;have hhas':aY (ak A x k s) g=true:=by have:=hhas;unfold aY at this ⊢;rw [hA'h];exact this
 have hin':bD (ak A x k s) (x:Int)=true:=(af _ _).2 ⟨by rw [eB];exact hin2.1,by rw [fP hB hin2.1];exact hin2.2⟩
 have hgi':((ak A x k s).c x).i=g:=by rw [fP hB hin2.1];exact hg
 have hdom':∀y,y∈L g→bD (ak A x k s) (y:Int)=true:=fun y hy=>by
  have h1:=(hI.mem g y hhas).1 hy;exact (af _ _).2 ⟨by rw [eB];exact h1.1,by rw [fP hB hin2.1];omega⟩
 have h16:∀y,y∈L g→y≤65536:=fun y hy=>by have:=((hI.mem g y hhas).1 hy).1;omega
 have hmany:=hI.many hhas;obtain ⟨rp,hp, -⟩:=hM.jf.row g hhas;have klow:=fun W (hW:aa [] w W)=>fE (hM.aj hW).cells x k s hk hB
 have hM2:=fun X w2 (hX:aa [] w X) (hC2:az w2 B.c F (ak A x k s) st) (hu2:aa F X w2)=>(hM.aj hX).bI hu2 hC2 (fun x hx=>Or.inl hx) hA'h
 have kraise:∀Y,sU Y B F Z gr cr (ak A x k s) st ptr G L→Calls Tryz.prog 148 #[.pointer (some ⟨rp,0,none⟩),.iface 170 (.pointer (some ⟨B.n0,0,none⟩)),.int .i64 (x:Int)] Y fun e w'=>e=.returned (.bool true)∧∃L' hc,jK w' rp (G g) B.d L'∧L'.Perm (L g)∧Hp (lU (ak A x k s)) B.d L'∧(M3 B F (ak A x k s) hc).at_ w'∧aa (G g++[B.c]) Y w':=by
  intro Y hMY;obtain ⟨rp',hp',hRY⟩:=hMY.jf.row g hhas';rw [hp] at hp';cases hp';have hRY':jK Y rp (G g) B.d (L g):=hRY;refine (DD (M3 B F (ak A x k s) hMY.cells.mem) hMY.ord hRY' hM.dd ω i x hx (hI.nd g hhas) hHo hBe hdom' h16 (hMY.clear hhas')).mono ?_;rintro e w' ⟨rfl,L',h1,h2,h3,h4,h5⟩;exact ⟨rfl,L',_,h1,h2,h3,h4,h5⟩
 have c0:=hM.h0;have c2:=hM.h2;have cg:=hM.jf.cell ω hp;have hlt:=hM.lt;have n0F:=hM.aZ.1;have grF:=hM.aZ.2.1;have HX:=χ (ψ hM (ψ hI (ψ hp (ψ hhas (ψ hhas' (ψ hxm (ψ hlt (ψ hM2 (ψ hgi' hin')))))))));have n3:∀z,z∈F→z<w.heap.size:=fun z hm=>hlt z (by simp only [DB.blk,List.mem_cons,List.mem_append];exact Or.inr (Or.inr (Or.inl hm)))
 have hgI:(g:Int)<(A.hs.length:Int):=ω;clear hM hI hok hcs hin hin2 hhas hgN hxm hi hxi hx hHo hBe hA'h hhas' hin' hgi' hdom' h16 hmany hp hlt hM2;generalize A.hs.length=m at *
 go_enter Tryz.func135,Tryz.ntmps135
 go_upto_region 1 with (fail)
 refine gB (fun W=>W.cell? ⟨w.heap.size,0,none⟩=some (.int .i64 k)∧W.cell? ⟨w.heap.size,1,none⟩=some (.int .u64 s)∧aa [] w W) ⟨γ,γ,β⟩ ?_
 rintro W ⟨x0,x1,hW⟩;have hb:w.heap.size∉F:=fun hm=>by have:=n3 _ hm;omega
 have e0:∀X,aa F W X→X.cell? ⟨w.heap.size,0,none⟩=some (.int .i64 k):=fun X h=>h.kept x0 hb
 have e1:∀X,aa F W X→X.cell? ⟨w.heap.size,1,none⟩=some (.int .u64 s):=fun X h=>h.kept x1 hb
 have e2:∀X,aa F W X→X.cell? ⟨B.n0,0,none⟩=some (.pointer (some ⟨B.c,0,none⟩)):=fun X h=>h.kept (hW.was c0) n0F
 have HW:=χ (ψ hW (ψ c2 cg));have klow1:∀X (hX:aa [] W X),Calls Tryz.prog 147 #[.pointer (some ⟨B.c,0,none⟩),.int .i64 (x:Int),.agg #[.int .i64 k,.int .u64 s]] X fun e w2=>e=.returned (.bool true)∧sU w2 B F Z gr cr (ak A x k s) st ptr G L∧aa F X w2:=fun X hX=>(klow X (hW.trans hX)).mono (fun e w2 h=>⟨h.1,HX.out.2.2.2.2.2.2.2.1 X w2 (hW.trans hX) h.2.1 h.2.2,h.2.2⟩)
 clear klow x0 x1 hW c0 c2 cg
 go_region_held3 (aa F W) (repeat (first|assumption|exact aa.refl _ _|refine aa.drew ?_|refine aa.alloc ?_ _|refine aa.setCell ?_ ?_ _|focus (left;simp;done)|focus (right;simp;done)|focus (right;simp;omega)|(apply aa.trans;rotate_left;assumption)))
  (first
   | ((go_at_call 147;(with_reducible refine (klow1 _ (by (repeat (first|assumption|exact aa.refl _ _|refine aa.drew ?_|refine aa.alloc ?_ _|refine aa.setCell ?_ ?_ _|focus (left;simp;done)|focus (right;simp;done)|focus (right;simp;omega)|(apply aa.trans;rotate_left;assumption))))).mono ?_));rintro e w2 ⟨rfl,hM2,hu2⟩;(have hv2:aa F W w2:=aa.trans (by (repeat (first|assumption|exact aa.refl _ _|refine aa.drew ?_|refine aa.alloc ?_ _|refine aa.setCell ?_ ?_ _|focus (left;simp;done)|focus (right;simp;done)|focus (right;simp;omega)|(apply aa.trans;rotate_left;assumption)))) hu2)))
 obtain ⟨hM,hI,hp,hhas,hhas',hxm,hlt,hM2',hgi',hin'⟩:=HX.out;have kh:=bZ hM2.cells x hin';rw [hgi'] at kh;have q0:=hM2.h0;have hM3:=fun w3 (hC3:az w3 B.c F (ak A x k s) st) (hu3:aa F w2 w3)=>hM2.bI hu3 hC3 (fun x hx=>Or.inl hx) rfl
 have hcg3:=fun w3 hC3 hu3=>(hM3 w3 hC3 hu3).jf.cell (g:=g) (by have:=(aK _ _).1 hhas';omega) hp
 have hh3:=fun w3 hC3 hu3=>(hM3 w3 hC3 hu3).h2
 have kr3:=fun w3 hC3 hu3=>kraise w3 (hM3 w3 hC3 hu3)
 have hml:(ak A x k s).hs.length=(ak A x k s).hs.length:=rfl;have hgI2:(g:Int)<((ak A x k s).hs.length:Int):=by have:=(aK _ _).1 hhas';omega
 clear hM hI hhas hhas' hxm hlt hM2' hgi' hin' kraise klow1 e0 e1 e2 hml hM2;generalize (ak A x k s).hs.length=m2 at *
 go_wp2_with (first
  | ((go_at_call 140;(with_reducible refine (kh).mono ?_));rintro e w3 ⟨rfl,hC3,hu3⟩;(have a0:=(hM3 w3 hC3 hu3).h0);(have a2:=hh3 w3 hC3 hu3);(have ag:=hcg3 w3 hC3 hu3);(have kr4:=kr3 w3 hC3 hu3))
  | ((go_at_call 148;(with_reducible refine (kr4).mono ?_));rintro e w4 ⟨rfl,L',hc,hR4,hp4,hH4,hO4,hu4⟩)
  | fail)
 go_ret;obtain ⟨hM,hI,hp,hhas,hhas',hxm,hlt, -, -, -⟩:=HX.out;have hM3':=hM3 w3 hC3 hu3;obtain ⟨st',hM4⟩:=hM3'.xh hhas' hp hu4 hR4 (fun z hz=>Or.inl hz) hO4
 have hI4:=hI.low hM.dd.1 hB hhas hxm hp4 hH4;have hgz:∀z,z∈G g++[B.c]→z∈F++Z:=fun z hz=>by
  rcases List.mem_append.1 hz with e|e
  ·exact List.mem_append.2 (Or.inr (hM.jf.vE g hhas z e))
  ·simp at e;rw [e];exact List.mem_append.2 (Or.inl hM.cells.mem)
 have hbl:∀z,z∈F++Z→z∈B.blk F Z gr:=fun z hz=>by
  simp only [DB.blk,List.mem_cons,List.mem_append] at hz ⊢;exact Or.inr (Or.inr hz)
 refine ⟨rfl,B.blk F (Z++G g) gr,⟨Z++G g,st',rfl,cr,ptr,_,_,hM4,hI4⟩,(((HW.out.1.mono σ).trans (hv2.mono (fun z hz=>hbl z (List.mem_append.2 (Or.inl hz))))).trans (hu3.mono (fun z hz=>hbl z (List.mem_append.2 (Or.inl hz))))).trans (hu4.mono (fun z hz=>hbl z (hgz z hz))),fun z hz=>Or.inl ?_⟩
 simp only [DB.blk,List.mem_cons,List.mem_append] at hz ⊢;rcases hz with h|h|h|h|h
 ·exact Or.inl h
 ·exact Or.inr (Or.inl h)
 ·exact Or.inr (Or.inr (Or.inl h))
 ·exact Or.inr (Or.inr (Or.inr h))
 ·exact Or.inr (Or.inr (Or.inr (hM.jf.vE g hhas z h)))
def PW (B:DB) (F Z:List Nat) (gr cr:Nat) (A:NS) (st:Nat) (ptr:Nat→Option Nat) (G L:Nat→List Nat) (g rp x:Nat) (w2:World):Prop:=
 sU w2 B F Z gr cr A st ptr G L∧∀Y,aa [] w2 Y→Calls Tryz.prog 150 #[.pointer (some ⟨rp,0,none⟩),.iface 170 (.pointer (some ⟨B.n0,0,none⟩)),.int .i64 (x:Int)] Y fun e w'=>e=.returned (.bool true)∧∃L' hc,jK w' rp (G g) B.d L'∧(x::L').Perm (L g)∧Hp (lU A) B.d L'∧(M3 B F A hc).at_ w'∧aa (G g++[B.c]) Y w'∧
  ∀V,aa [] w' V→Calls Tryz.prog 151 #[.pointer (some ⟨B.c,0,none⟩),.int .i64 (x:Int)] V fun e w''=>e=.returned (.bool true)∧aa F V w''∧∃st',az w'' B.c F (aL A x) st'
theorem Ch (h:lN w B F Z gr A st) (x:Nat) (hin:bD A (x:Int)=true) :
  Calls Tryz.prog 136 #[.pointer (some ⟨B.n0,0,none⟩),.int .i64 (x:Int)] w fun e w'=>e=.returned (.bool true)∧Goes (B.blk F Z gr) w w' (fun F'=>∃Z' st',F'=B.blk F Z' gr∧lN w' B F Z' gr (aL A x) st'):=by
 obtain ⟨cr,ptr,G,L,hM,hI⟩:=h;have hok:=hM.cells.ok;have hcs:=hok.c1;have hin2:=(af _ _).1 hin;have hhas:=gN hok hin;rw [π] at hhas;obtain ⟨g,hg⟩:∃g:Nat,(A.c x).i=g:=⟨(A.c x).i.toNat,ω⟩
 rw [hg] at hhas;have hgN:=(aK _ _).1 hhas;have hxm:x∈L g:=(hI.mem g x hhas).2 ⟨hin2.1,hg⟩;have hmany:=hI.many hhas;obtain ⟨rp,hp, -⟩:=hM.jf.row g hhas;have kh:∀W,aa [] w W→Calls Tryz.prog 140 #[.pointer (some ⟨B.c,0,none⟩),.int .i64 (x:Int)] W fun e w2=>e=.returned (.tuple #[.int .i64 (g:Int),.bool true])∧aa F W w2∧PW B F Z gr cr A st ptr G L g rp x w2:=fun W hW=>by
  have k:=bZ (hM.aj hW).cells x hin;rw [hg] at k;refine k.mono ?_;rintro e w2 ⟨rfl,hC2,hu2⟩;have hM2:=(hM.aj hW).bI hu2 hC2 (fun x hx=>Or.inl hx) rfl
  refine ⟨rfl,hu2,hM2,fun Y hY=>?_⟩
  have hMY:=hM2.aj hY;obtain ⟨rp',hp',hRY⟩:=hMY.jf.row g hhas;rw [hp] at hp';cases hp';have hRY':jK Y rp (G g) B.d (L g):=hRY;refine (Bu (M3 B F A hMY.cells.mem) hMY.ord hRY' hM.dd ω x hxm (hI.nd g hhas) (hI.hp g hhas) (fun y hy=>(hI.len hhas hy).2.1) (fun y hy=>by have:=(hI.len hhas hy).1;omega) (hMY.clear hhas)).mono ?_
  rintro e w' ⟨rfl,L',h1,h2,h3,h4,h5⟩;refine ⟨rfl,L',_,h1,h2,h3,h4,h5,fun V hV=>?_⟩
  obtain ⟨-, -,st',hC⟩:=h4;refine (fw (hC.aj hV) x hin).mono ?_;rintro e w'' ⟨rfl,hC',hu'⟩;exact ⟨rfl,hu',st',hC'⟩
 have c0:=hM.h0;have c2:=hM.h2;have cg:=hM.jf.cell ω hp;have hlt:=hM.lt;have HX:=χ (ψ hM (ψ hI (ψ hp (ψ hhas (ψ hxm hlt)))));have n1:B.n0∉F++Z:=fun hm=>by rcases List.mem_append.1 hm with e|e;exact hM.aZ.1 e;exact (hM.iX _ e).2 rfl
 have n2:gr∉F++Z:=fun hm=>by rcases List.mem_append.1 hm with e|e;exact hM.aZ.2.1 e;exact hM.jf.L8 e
 have hgI:(g:Int)<(A.hs.length:Int):=ω;have hgz:∀z,z∈G g++[B.c]→z∈F++Z:=fun z hz=>by
  rcases List.mem_append.1 hz with e|e
  ·exact List.mem_append.2 (Or.inr (hM.jf.vE g hhas z e))
  ·simp at e;rw [e];exact List.mem_append.2 (Or.inl hM.cells.mem)
 clear hM hI hok hcs hin2 hhas hgN hxm hmany hp hlt;generalize A.hs.length=m at *
 go_enter Tryz.func136,Tryz.ntmps136
 go_upto_region 2 with (first
  | ((go_at_call 140;(with_reducible refine (kh _ β).mono ?_));rintro e w2 ⟨rfl,hu2,hM2,krem⟩)
  | fail)
 have hu2':aa (F++Z) w w2:=hu2.mono (fun z hz=>List.mem_append.2 (Or.inl hz))
 have e2:∀X,aa (F++Z) w2 X→X.cell? ⟨B.n0,0,none⟩=some (.pointer (some ⟨B.c,0,none⟩)):=fun X h=>(hu2'.trans h).kept c0 n1
 have e3:∀X,aa (F++Z) w2 X→X.cell? ⟨B.n0,2,none⟩=some (.slice (some ⟨gr,0,none⟩) m cr):=fun X h=>(hu2'.trans h).kept c2 n1
 have e4:∀X,aa (F++Z) w2 X→X.cell? ⟨gr,g,none⟩=some (.pointer (some ⟨rp,0,none⟩)):=fun X h=>(hu2'.trans h).kept cg n2
 clear c0 c2 cg kh hu2;have a2:=e2 w2 (aa.refl _ _);have a3:=e3 w2 (aa.refl _ _);have a4:=e4 w2 (aa.refl _ _)
 go_wp2_with (first
   | ((go_at_call 150;(with_reducible refine (krem _ (by (repeat (first|assumption|exact aa.refl _ _|refine aa.drew ?_|refine aa.alloc ?_ _|refine aa.setCell ?_ ?_ _|focus (left;simp;done)|focus (right;simp;done)|focus (right;simp;omega)|(apply aa.trans;rotate_left;assumption))))).mono ?_));rintro e w3 ⟨rfl,L',hc,hR3,hp3,hH3,hO3,hu3,kdrop⟩;(have hv3:aa (F++Z) w2 w3:=aa.trans (by (repeat (first|assumption|exact aa.refl _ _|refine aa.drew ?_|refine aa.alloc ?_ _|refine aa.setCell ?_ ?_ _|focus (left;simp;done)|focus (right;simp;done)|focus (right;simp;omega)|(apply aa.trans;rotate_left;assumption)))) (hu3.mono hgz));(have b2:=e2 w3 hv3);(have b3:=e3 w3 hv3);(have b4:=e4 w3 hv3))
   | ((go_at_call 151;(with_reducible refine (kdrop _ (by (repeat (first|assumption|exact aa.refl _ _|refine aa.drew ?_|refine aa.alloc ?_ _|refine aa.setCell ?_ ?_ _|focus (left;simp;done)|focus (right;simp;done)|focus (right;simp;omega)|(apply aa.trans;rotate_left;assumption))))).mono ?_));rintro e w4 ⟨rfl,hu4,st4,hC4⟩;(have hv4:aa (F++Z) w2 w4:=aa.trans hv3 (hu4.mono (fun z hz=>List.mem_append.2 (Or.inl hz)))))
   | fail)
 obtain ⟨hM,hI,hp,hhas,hxm,hlt⟩:=HX.out;have hu3':aa (G g++[B.c]) w2 w3:=aa.trans (by (repeat (first|assumption|exact aa.refl _ _|refine aa.drew ?_|refine aa.alloc ?_ _|refine aa.setCell ?_ ?_ _|focus (left;simp;done)|focus (right;simp;done)|focus (right;simp;omega)|(apply aa.trans;rotate_left;assumption)))) hu3
 have hu4':aa F w3 w4:=aa.trans (by (repeat (first|assumption|exact aa.refl _ _|refine aa.drew ?_|refine aa.alloc ?_ _|refine aa.setCell ?_ ?_ _|focus (left;simp;done)|focus (right;simp;done)|focus (right;simp;omega)|(apply aa.trans;rotate_left;assumption)))) hu4
 obtain ⟨st',hM3⟩:=hM2.xh hhas hp hu3' hR3 (fun z hz=>Or.inl hz) hO3
 have hM4:=hM3.bI hu4' hC4 (fun x hx=>Or.inl hx) (fA _ _)
 have hI4:=hI.drop hM.dd.1 hhas hxm hp3 hH3;go_ret;refine ⟨rfl,B.blk F (Z++G g) gr,⟨Z++G g,st4,rfl,cr,ptr,_,_,hM4,hI4⟩,(hu2'.trans hv4).mono (fun z hz=>?_),fun z hz=>Or.inl ?_⟩
 ·simp only [DB.blk,List.mem_cons,List.mem_append] at hz ⊢;exact Or.inr (Or.inr hz)
 ·simp only [DB.blk,List.mem_cons,List.mem_append] at hz ⊢;rcases hz with h|h|h|h|h
  ·exact Or.inl h
  ·exact Or.inr (Or.inl h)
  ·exact Or.inr (Or.inr (Or.inl h))
  ·exact Or.inr (Or.inr (Or.inr h))
  ·exact Or.inr (Or.inr (Or.inr (hM.jf.vE g hhas z h)))
theorem yx (h:lN w B F Z gr A st) (g m:Nat) (hm:bL A g=some m) :
  Calls Tryz.prog 138 #[.pointer (some ⟨B.n0,0,none⟩),.int .i64 (g:Int)] w fun e w'=>e=.returned (.tuple #[.int .i64 (m:Int),.bool true])∧Goes (B.blk F Z gr) w w' (fun F'=>∃Z' st',F'=B.blk F Z' gr∧lN w' B F Z' gr (aL A m) st'):=by
 have hin:=(j3 hm).2.2.2;have hok:A.Ok:=by obtain ⟨cr,ptr,G,L,hM,hI⟩:=h;exact hM.cells.ok
 have hhas:aY A g=true:=by
  have:=gN hok hin;rw [π,(j3 hm).2.2.1] at this;exact this
 have km:=Bh h g hhas;rw [hm,show oD (some m)=(m:Int) from rfl,show (some m).isSome=true from rfl] at km
 have kd:=Ch h m hin;clear h hm hin hok hhas
 go_enter Tryz.func138,Tryz.ntmps138
 go_wp2_with (first
  | (go_at_call 145;(with_reducible refine (km).mono ?_);rintro e w9 ⟨rfl,hw9⟩;rw [hw9];clear hw9 w9)
  | ((go_at_call 136;(with_reducible refine (kd).mono ?_));rintro e w2 ⟨rfl,hg⟩)
  | fail)
 go_ret2;exact ⟨rfl,hg⟩
end
end Go.Proofs.YtklibcncmbofpaaGreat
