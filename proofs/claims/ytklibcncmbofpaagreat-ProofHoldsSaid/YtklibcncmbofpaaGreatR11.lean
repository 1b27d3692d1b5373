/-
  Lemmas for ProofHolds: Sd9, Dr4, Sd10, Sd11, Arity, DrQ. Conditions: those of each lemma.
-/
import Derived.Test.YtklibcncmbofpaaGreatR05
import Derived.Test.YtklibcncmbofpaaGreatR10
set_option linter.all false
set_option maxHeartbeats 8000000
set_option maxRecDepth 10000
namespace Go.Proofs.YtklibcncmbofpaaGreat
open Go Go.RowKit
section
variable {w w':World}{B:HB}{F Z:List Nat}{gr cr st:Nat}{A:NS}{ptr:Nat->Option Nat}{G L:Nat->List Nat}{T:List Nat}
theorem SdI.turn{A':NS}{g:Nat}{l T':List Nat}(h:SdI A L T)(hd:ry 2 A' (jW L g l))(hh:∀k:Nat,bJ A' k=bJ A k)(hg:bJ A g=true)(hl:∀j x,l[j]?=some x->T'.getD x 0=j)(ho:∀x,x∉l->x∉L g->T'.getD x 0=T.getD x 0)(hm:∀k x,k≠g->bJ A k=true->x∈L k->x∉l/\x∉L g):SdI A' (jW L g l) T':=by
 refine⟨hd,fun k hk j x hj=>?_⟩;rw[hh]at hk
 by_cases e:k=g
 ·subst e;rw[dK]at hj;exact hl j x hj
 ·rw[bP _ _ e]at hj;have hx:=hm k x e hk (List.mem_of_getElem? hj);rw[ho x hx.1 hx.2];exact h.Bz k hk j x hj
theorem ry.apart(h:ry 2 A L){k g x:Nat}(e:k≠g)(hk:bJ A k=true)(hg:bJ A g=true)(hx:x∈L k):x∉L g:=fun hm=>by
 have h1:=(h.mem k x hk).1 hx;have h2:=(h.mem g x hg).1 hm;omega
def PuR(B:HB)(F Z:List Nat)(gr cr:Nat)(A':NS)(st:Nat)(ptr:Nat->Option Nat)(G L:Nat->List Nat)(T:List Nat)(g rp x:Nat)(v:Value)(w2:World):Prop:=ShM w2 B F Z gr cr A' st ptr G L T/\∀Y,aa [] w2 Y->
   Calls Tryz.prog 279 #[.iface 317 (.pointer (some ⟨rp,0,none⟩)),.iface 3 (.int .i64 (x:Int))] Y fun e w'=>e=.returned (.tuple #[])/\PuE Y B F A' rp v (L g) T x w'
theorem Ep(h:ShAt w B F Z gr A st)(g x:Nat)(k s:Int)(hk:-9223372036854775808<=k/\k<=9223372036854775807/\0<=s/\s<=18446744073709551615)(hB:oG A g x=true) :
  Calls Tryz.prog 273 #[.pointer (some ⟨B.n0,0,none⟩),.int .i64 (g:Int),.int .i64 (x:Int),.agg #[.int .i64 k,.int .u64 s]] w fun e w'=>e=.returned (.bool true)/\Goes (B.blk F Z gr) w w' (fun F'=>∃Z' st',F'=B.blk F Z' gr/\ShAt w' B F Z' gr (aK A g x k s) st'):=by
 obtain⟨cr,ptr,G,L,T,hM,hI⟩:=h;have hb1:=(fB _ _ _).1 hB;have hgN:=(aV _ _).1 hb1.1;have hok:=hM.cells.ok;have hcs:=hok.c1;obtain⟨r1,r2,r3,r4,r5⟩:=hI.di.ready ω hok (k:=k) (s:=s) hB;have o9:(aK A g x k s).hs=A.hs:=by unfold aK;rw[if_pos hB];rfl
 have J4:(aK A g x k s).cs.length=A.cs.length:=by unfold aK;rw[if_pos hB];exact fI _ _ _
 have iB:bJ (aK A g x k s) g=true:=by have:=hb1.1;unfold bJ at this⊢;rw[o9];exact this
 have hdom:∀y,y∈L g->bS (aK A g x k s) (y:Int)=true/\y<T.length:=fun y hy=>⟨r4 y (by simp[hy]),by rw[hM.tl];exact r5 y (by simp[hy])⟩
 obtain⟨rp,hp,v, -, -,De, -⟩:=hM.lL.row g hb1.1;have U8:∀X w2,aa [] w X->aF w2 B.c F (aK A g x k s) st->aa F X w2->PuR B F Z gr cr (aK A g x k s) st ptr G L T g rp x v w2:=by
  intro X w2 hX hC2 hu2;have hM2:=(hM.au hX).cB hu2 hC2 (fun x hx=>Or.inl hx) o9 J4;refine⟨hM2,fun Y hY=>?_⟩;obtain⟨rp',v',hp',hG',hP⟩:=(hM2.au hY).pile iB hdom (hI.di.nd g hb1.1) (hI.Bz g hb1.1);rw[hp]at hp';cases hp';rw[De]at hG';have ev:v'.ownBlock.toList=v.ownBlock.toList:=(List.cons.inj hG').2.symm;refine(Pj hP x r1 (r4 x σ) (by rw[hM.tl];exact r5 x σ) (by rw[hM.tl];omega) r3).mono ?_;rintro e w' ⟨rfl,gs,cap,L',T',q1,q2,q3,q4,q5,q6,q7⟩;refine⟨rfl,gs,cap,L',T',q1,q2,q3,q4,q5,by rw[←ev];exact q6,?_⟩;rcases q7 with e|e
  ·left;have:gs∈v.ownBlock.toList:=by rw[←ev];exact Option.mem_toList.2 e
   exact Option.mem_toList.1 this
  ·exact Or.inr e
 have Qj:∀W (hW:aa [] w W),Calls Tryz.prog 154 #[.pointer (some ⟨B.c,0,none⟩),.int .i64 (g:Int),.int .i64 (x:Int),.agg #[.int .i64 k,.int .u64 s]] W fun e w2=>e=.returned (.bool true)/\aa F W w2/\PuR B F Z gr cr (aK A g x k s) st ptr G L T g rp x v w2:=fun W hW=>(nW (hM.au hW).cells g x k s hk hB).mono (fun e w2 h=>by
  obtain⟨rfl,hC2,hu2⟩:=h
  exact⟨rfl,hu2,U8 W w2 hW hC2 hu2⟩)
 have c0:=hM.h0;have c2:=hM.h1;have cg:=hM.lL.cell ω hp;have hlt:=hM.lt;have HX:=χ (ψ hM (ψ hI (ψ hok (ψ hB (ψ hp (ψ iB (ψ hlt (ψ De (ψ hb1.1 (ψ o9 J4))))))))));have n1:B.n0∉F:=hM.bG.1;have n2:gr∉F:=hM.bG.2.1;have n3:∀z,z∈F->z<w.heap.size:=fun z hm=>hlt z (by simp only[HB.blk,ρ,τ];exact Or.inr (Or.inr (Or.inr (Or.inl hm))));have TB:(g:Int)<(A.hs.length:Int):=ω;clear hM hI hok hB hp iB hlt r1 r3 r4 r5 hb1 hgN r2 hcs o9 J4 U8 hdom De;generalize A.hs.length=m at *
 go_enter Tryz.func273,Tryz.ntmps273
 go_upto_region 1 with(fail)
 refine jk (fun W=>W.cell? ⟨w.heap.size,0,none⟩=some (.int .i64 k)/\W.cell? ⟨w.heap.size,1,none⟩=some (.int .u64 s)/\aa [] w W) ⟨γ,γ,β⟩ ?_;rintro W ⟨x0,x1,hW⟩;have hb:w.heap.size∉F:=fun hm=>by have:=n3 _ hm;omega
 have e0:∀X,aa F W X->X.cell? ⟨w.heap.size,0,none⟩=some (.int .i64 k):=fun X h=>h.kept x0 hb;have e1:∀X,aa F W X->X.cell? ⟨w.heap.size,1,none⟩=some (.int .u64 s):=fun X h=>h.kept x1 hb;have e2:∀X,aa F W X->X.cell? ⟨B.n0,0,none⟩=some (.pointer (some ⟨B.c,0,none⟩)):=fun X h=>h.kept (hW.was c0) n1;have e3:∀X,aa F W X->X.cell? ⟨B.n0,1,none⟩=some (.slice (some ⟨gr,0,none⟩) m cr):=fun X h=>h.kept (hW.was c2) n1;have e4:∀X,aa F W X->X.cell? ⟨gr,g,none⟩=some (.pointer (some ⟨rp,0,none⟩)):=fun X h=>h.kept (hW.was cg) n2;have HW:=χ hW;have MJ:=fun X (hX:aa [] W X)=>Qj X (hW.trans hX)
 clear x0 x1 hW Qj c0 c2 cg
 go_region_held3 (aa F W) (exact ν)
  (first
   | ((go_at_call 154;(with_reducible refine(MJ _ ν).mono ?_));rintro e w2 ⟨rfl,hu2,hM2,TI⟩;(have hv2:aa F W w2:=aa.trans ν hu2)))
 have a3:=e3 w2 hv2;have a4:=e4 w2 hv2;have HV:=χ hv2;clear e0 e1 e2 e3 e4 MJ hv2 hu2
 go_wp2_with (first
  | ((go_at_call 279;(with_reducible refine(TI _ (aa.refl _ _)).mono ?_));rintro e w3 ⟨rfl,hQ⟩)
  | fail)
 go_ret;obtain⟨hM,hI,hok,hB,hp,iB,hlt,De,hg1,o9,J4⟩:=HX.out;obtain⟨gs,cap,L',T',q1,q2,q3,q4,q5,q6,q7⟩:=hQ;have hPE:=q1.any;have vX:∀z,z∈rp::v.ownBlock.toList->z∈G g:=fun z hz=>by rw[De];exact hz
 obtain⟨st',jR⟩:=hM2.Bc (g:=g) iB hp q6 (fun z hz=>by
  simp only[ρ]at hz;rcases hz with e|e|e|e
  ·exact Or.inl (vX z (by simp[e]))
  ·exact Or.inr (Or.inl e)
  ·exact Or.inr (Or.inr e)
  ·exact Or.inl (vX z (List.mem_cons_of_mem _ e))) (vX rp σ) hPE q5 (fun k hk=>by
  cases hk;rcases q7 with e|e
  ·exact Or.inl (vX _ (List.mem_cons_of_mem _ (Option.mem_toList.2 e)))
  ·exact Or.inr e)
 have hI3:=hI.di.put ω hok hB q2 q3
 have hsd:SdI (aK A g x k s) (jW L g L') T':=hI.turn hI3.1 (fun q=>by unfold bJ;rw[o9]) hg1 q1.Bz (fun y h1 h2=>q4 y (fun hm=>h1 (q2.mem_iff.2 hm))) (fun q y e hq hy=>by
  have h2:=hI.di.apart e hq hg1 hy;refine⟨fun hm=>?_,h2⟩;rcases ρ.1 (q2.mem_iff.1 hm)with e3|e3
  ·subst e3;have h4:=(hI.di.mem q y hq).1 hy;have h5:=((fB _ _ _).1 hB).2.2;have h6:=(aV _ _).1 hq;rw[(ah A y).2 ⟨h4.1,ω⟩]at h5;cases h5
  ·exact h2 e3)
 have hsz:=HW.out.size;have hsz2:=HV.out.size;have hbl:∀z,z∈F->z∈B.blk F Z gr:=fun z hz=>by simp only[HB.blk,ρ,τ];exact Or.inr (Or.inr (Or.inr (Or.inl hz)))
 have hbz:∀z,z∈G g->z∈B.blk F Z gr:=fun z hz=>by simp only[HB.blk,ρ,τ];exact Or.inr (Or.inr (Or.inr (Or.inr (hM.lL.yT g hg1 z hz))))
 refine⟨rfl,B.blk F (Z++(rp::Option.toList (some gs))) gr,⟨_,st',rfl,cr,ptr,_,_,T',jR,hsd⟩,((HW.out.mono σ).trans (HV.out.mono hbl)).trans (q6.mono (fun z hz=>?_)),fun z hz=>?_⟩
 ·simp only[ρ]at hz;rcases hz with e|e|e|e
  ·exact hbz z (vX z (by simp[e]))
  ·simp[HB.blk,e]
  ·exact hbl z (by rw[e];exact hM.cells.mem)
  ·exact hbz z (vX z (List.mem_cons_of_mem _ e))
 ·simp only[HB.blk,ρ,τ,Option.toList_some,ς,or_false]at hz;rcases hz with h|h|h|h|h|h|h
  ·left;simp[HB.blk,h]
  ·left;simp[HB.blk,h]
  ·left;simp[HB.blk,h]
  ·exact Or.inl (hbl z h)
  ·left;simp[HB.blk,h]
  ·exact Or.inl (hbz z (vX z (by simp[h])))
  ·rcases q7 with e|e
   ·exact Or.inl (hbz z (vX z (List.mem_cons_of_mem _ (by rw[h];exact Option.mem_toList.2 e))))
   ·exact Or.inr ω
end
theorem ry.LQ{d:Nat}{A:NS}{L:Nat->List Nat}(h:ry d A L)(hd:2<=d){g x i:Nat}{k s:Int}(hB:jg A x k s=true)(hg:bJ A g=true)(hx:(L g)[i]?=some x) :
  fC (oJ (ay A x k s)) d (L g) i/\Below (oJ (ay A x k s)) d (L g) i x:=by
 have hxm:=List.mem_of_getElem? hx;have hm:=(h.mem g x hg).1 hxm;have hc:=rD hB hm.1;have hle:=uu hB;rw[π]at hle;have hn:=h.nd g hg;obtain⟨hi,hxe⟩:=List.getElem?_eq_some_iff.1 hx;have hcy:∀y,y≠x->(ay A x k s).c y=A.c y:=fun y e=>by rw[hc,if_neg e]
 have Dv:(ay A x k s).c x=⟨(A.c x).i,k,s⟩:=by rw[hc,if_pos rfl]
 have hne:∀y,y∈(L g).eraseIdx i->y≠x:=fun y hy e=>by
  obtain⟨q,hq,hqe⟩:=List.mem_eraseIdx_iff_getElem?.1 hy;obtain⟨g1,e1⟩:=List.getElem?_eq_some_iff.1 hqe;exact hq ((List.getElem_inj hn).1 (e1.trans (e.trans hxe.symm)))
 have hH:=h.hp g hg;refine⟨(hH.hole (iP A) hd hi).frame (fun a b ha hb hab=>fq.2 ((fJ (hcy a (hne a ha)) (hcy b (hne b hb))).2 (fq.1 hab))) hd,fun j j0 hj hp=>?_⟩;have h1:=hH j j0 hj;have h2:(L g).getD (par d j) 0=x:=by rw[hp,φ,hx];rfl
 rw[h2]at h1;have hji:j≠i:=fun e=>by have:=eY hd j0;omega
 have hyx:(L g).getD j 0≠x:=fun e=>by
  have h3:(L g)[j]?=some x:=by rw[←e,φ,ε hj];rfl
  obtain⟨g1,e1⟩:=List.getElem?_eq_some_iff.1 h3;exact hji ((List.getElem_inj hn).1 (e1.trans hxe.symm))
 exact fq.2 (l9 (fq.1 h1) (hcy _ hyx) (by rw[Dv];exact hle))
section
variable {w w':World}{B:DB}{F Z:List Nat}{gr cr st:Nat}{A:NS}{ptr:Nat->Option Nat}{G L:Nat->List Nat}
theorem Uq(h:nZ w B F Z gr A st)(x:Nat)(k s:Int)(hk:-9223372036854775808<=k/\k<=9223372036854775807/\0<=s/\s<=18446744073709551615)(hB:jg A x k s=true) :
  Calls Tryz.prog 135 #[.pointer (some ⟨B.n0,0,none⟩),.int .i64 (x:Int),.agg #[.int .i64 k,.int .u64 s]] w fun e w'=>e=.returned (.bool true)/\Goes (B.blk F Z gr) w w' (fun F'=>∃Z' st',F'=B.blk F Z' gr/\nZ w' B F Z' gr (ay A x k s) st'):=by
 obtain⟨cr,ptr,G,L,hM,hI⟩:=h;have hok:=hM.cells.ok;have hcs:=hok.c1;have hin:=rq hB;have hin2:=(ah _ _).1 hin;have hhas:=iX hok hin;rw[π]at hhas;obtain⟨g,hg⟩:∃g:Nat,(A.c x).i=g:=⟨(A.c x).i.toNat,ω⟩;rw[hg]at hhas;have hgN:=(aV _ _).1 hhas;have hxm:x∈L g:=(hI.mem g x hhas).2 ⟨hin2.1,hg⟩;obtain⟨i,hi,hxi⟩:=List.mem_iff_getElem.1 hxm;have hx:(L g)[i]?=some x:=by rw[ε hi,hxi]
 obtain⟨WQ,hBe⟩:=hI.LQ hM.dd.1 hB hhas hx;have o9:(ay A x k s).hs=A.hs:=lJ _ _ _ _;have iB:bJ (ay A x k s) g=true:=by have:=hhas;unfold bJ at this⊢;rw[o9];exact this
 have hin':bS (ay A x k s) (x:Int)=true:=(ah _ _).2 ⟨by rw[fE];exact hin2.1,by rw[iM hB hin2.1];exact hin2.2⟩;have hgi':((ay A x k s).c x).i=g:=by rw[iM hB hin2.1];exact hg
 have Ij:∀y,y∈L g->bS (ay A x k s) (y:Int)=true:=fun y hy=>by
  have h1:=(hI.mem g y hhas).1 hy;exact(ah _ _).2 ⟨by rw[fE];exact h1.1,by rw[iM hB hin2.1];omega⟩
 have h16:∀y,y∈L g->y<=65536:=fun y hy=>by have:=((hI.mem g y hhas).1 hy).1;omega
 have Qx:=hI.many hhas;obtain⟨rp,hp, -⟩:=hM.lL.row g hhas;have QQ:=fun W (hW:aa [] w W)=>iE (hM.au hW).cells x k s hk hB;have hM2:=fun X w2 (hX:aa [] w X) (hC2:aF w2 B.c F (ay A x k s) st) (hu2:aa F X w2)=>(hM.au hX).cB hu2 hC2 (fun x hx=>Or.inl hx) o9;have Tz:∀Y,wM Y B F Z gr cr (ay A x k s) st ptr G L->Calls Tryz.prog 148 #[.pointer (some ⟨rp,0,none⟩),.iface 170 (.pointer (some ⟨B.n0,0,none⟩)),.int .i64 (x:Int)] Y fun e w'=>e=.returned (.bool true)/\∃L' hc,mH w' rp (G g) B.d L'/\L'.Perm (L g)/\Hp (oJ (ay A x k s)) B.d L'/\(Vd B F (ay A x k s) hc).at_ w'/\aa (G g++[B.c]) Y w':=by
  intro Y MF;obtain⟨rp',hp',hRY⟩:=MF.lL.row g iB;rw[hp]at hp';cases hp';have Sy:mH Y rp (G g) B.d (L g):=hRY;refine(Js (Vd B F (ay A x k s) MF.cells.mem) MF.ord Sy hM.dd ω i x hx (hI.nd g hhas) WQ hBe Ij h16 (MF.clear iB)).mono ?_;rintro e w' ⟨rfl,L',h1,h2,h3,h4,h5⟩;exact⟨rfl,L',_,h1,h2,h3,h4,h5⟩
 have c0:=hM.h0;have c2:=hM.h2;have cg:=hM.lL.cell ω hp;have hlt:=hM.lt;have n0F:=hM.bG.1;have grF:=hM.bG.2.1;have HX:=χ (ψ hM (ψ hI (ψ hp (ψ hhas (ψ iB (ψ hxm (ψ hlt (ψ hM2 (ψ hgi' hin')))))))));have n3:∀z,z∈F->z<w.heap.size:=fun z hm=>hlt z (by simp only[DB.blk,ρ,τ];exact Or.inr (Or.inr (Or.inl hm)));have TB:(g:Int)<(A.hs.length:Int):=ω;clear hM hI hok hcs hin hin2 hhas hgN hxm hi hxi hx WQ hBe o9 iB hin' hgi' Ij h16 Qx hp hlt hM2;generalize A.hs.length=m at *
 go_enter Tryz.func135,Tryz.ntmps135
 go_upto_region 1 with(fail)
 refine jk (fun W=>W.cell? ⟨w.heap.size,0,none⟩=some (.int .i64 k)/\W.cell? ⟨w.heap.size,1,none⟩=some (.int .u64 s)/\aa [] w W) ⟨γ,γ,β⟩ ?_;rintro W ⟨x0,x1,hW⟩;have hb:w.heap.size∉F:=fun hm=>by have:=n3 _ hm;omega
 have e0:∀X,aa F W X->X.cell? ⟨w.heap.size,0,none⟩=some (.int .i64 k):=fun X h=>h.kept x0 hb;have e1:∀X,aa F W X->X.cell? ⟨w.heap.size,1,none⟩=some (.int .u64 s):=fun X h=>h.kept x1 hb;have e2:∀X,aa F W X->X.cell? ⟨B.n0,0,none⟩=some (.pointer (some ⟨B.c,0,none⟩)):=fun X h=>h.kept (hW.was c0) n0F;have HW:=χ (ψ hW (ψ c2 cg))
 have GX:∀X (hX:aa [] W X),Calls Tryz.prog 147 #[.pointer (some ⟨B.c,0,none⟩),.int .i64 (x:Int),.agg #[.int .i64 k,.int .u64 s]] X fun e w2=>e=.returned (.bool true)/\wM w2 B F Z gr cr (ay A x k s) st ptr G L/\aa F X w2:=fun X hX=>(QQ X (hW.trans hX)).mono (fun e w2 h=>⟨h.1,HX.out.2.2.2.2.2.2.2.1 X w2 (hW.trans hX) h.2.1 h.2.2,h.2.2⟩);clear QQ x0 x1 hW c0 c2 cg
 go_region_held3 (aa F W) (exact ν)
  (first
   | ((go_at_call 147;(with_reducible refine(GX _ ν).mono ?_));rintro e w2 ⟨rfl,hM2,hu2⟩;(have hv2:aa F W w2:=aa.trans ν hu2)))
 obtain⟨hM,hI,hp,hhas,iB,hxm,hlt,hM2',hgi',hin'⟩:=HX.out;have kh:=dQ hM2.cells x hin';rw[hgi']at kh;have q0:=hM2.h0;have jR:=fun w3 (yU:aF w3 B.c F (ay A x k s) st) (hu3:aa F w2 w3)=>hM2.cB hu3 yU (fun x hx=>Or.inl hx) rfl;have hcg3:=fun w3 yU hu3=>(jR w3 yU hu3).lL.cell (g:=g) (by have:=(aV _ _).1 iB;omega) hp;have hh3:=fun w3 yU hu3=>(jR w3 yU hu3).h2;have kr3:=fun w3 yU hu3=>Tz w3 (jR w3 yU hu3);have hml:(ay A x k s).hs.length=(ay A x k s).hs.length:=rfl;have hgI2:(g:Int)<((ay A x k s).hs.length:Int):=by have:=(aV _ _).1 iB;omega
 clear hM hI hhas iB hxm hlt hM2' hgi' hin' Tz GX e0 e1 e2 hml hM2;generalize (ay A x k s).hs.length=m2 at *
 go_wp2_with (first
  | ((go_at_call 140;(with_reducible refine(kh).mono ?_));rintro e w3 ⟨rfl,yU,hu3⟩;(have a0:=(jR w3 yU hu3).h0);(have a2:=hh3 w3 yU hu3);(have ag:=hcg3 w3 yU hu3);(have kr4:=kr3 w3 yU hu3))
  | ((go_at_call 148;(with_reducible refine(kr4).mono ?_));rintro e w4 ⟨rfl,L',hc,hR4,hp4,hH4,hO4,gX⟩)
  | fail)
 go_ret;obtain⟨hM,hI,hp,hhas,iB,hxm,hlt, -, -, -⟩:=HX.out;have hM3':=jR w3 yU hu3;obtain⟨st',rW⟩:=hM3'.Bc iB hp gX hR4 (fun z hz=>Or.inl hz) hO4;have UH:=hI.low hM.dd.1 hB hhas hxm hp4 hH4;have hgz:∀z,z∈G g++[B.c]->z∈F++Z:=fun z hz=>by
  rcases τ.1 hz with e|e
  ·exact τ.2 (Or.inr (hM.lL.yT g hhas z e))
  ·simp at e;rw[e];exact τ.2 (Or.inl hM.cells.mem)
 have hbl:∀z,z∈F++Z->z∈B.blk F Z gr:=fun z hz=>by
  simp only[DB.blk,ρ,τ]at hz⊢;exact Or.inr (Or.inr hz)
 refine⟨rfl,B.blk F (Z++G g) gr,⟨Z++G g,st',rfl,cr,ptr,_,_,rW,UH⟩,(((HW.out.1.mono σ).trans (hv2.mono (fun z hz=>hbl z (τ.2 (Or.inl hz))))).trans (hu3.mono (fun z hz=>hbl z (τ.2 (Or.inl hz))))).trans (gX.mono (fun z hz=>hbl z (hgz z hz))),fun z hz=>Or.inl ?_⟩;simp only[DB.blk,ρ,τ]at hz⊢;rcases hz with h|h|h|h|h
 ·exact Or.inl h
 ·exact Or.inr (Or.inl h)
 ·exact Or.inr (Or.inr (Or.inl h))
 ·exact Or.inr (Or.inr (Or.inr h))
 ·exact Or.inr (Or.inr (Or.inr (hM.lL.yT g hhas z h)))
def RemR(B:DB)(F Z:List Nat)(gr cr:Nat)(A:NS)(st:Nat)(ptr:Nat->Option Nat)(G L:Nat->List Nat)(g rp x:Nat)(w2:World):Prop:=
 wM w2 B F Z gr cr A st ptr G L/\∀Y,aa [] w2 Y->Calls Tryz.prog 150 #[.pointer (some ⟨rp,0,none⟩),.iface 170 (.pointer (some ⟨B.n0,0,none⟩)),.int .i64 (x:Int)] Y fun e w'=>e=.returned (.bool true)/\∃L' hc,mH w' rp (G g) B.d L'/\(x::L').Perm (L g)/\Hp (oJ A) B.d L'/\(Vd B F A hc).at_ w'/\aa (G g++[B.c]) Y w'/\
  ∀V,aa [] w' V->Calls Tryz.prog 151 #[.pointer (some ⟨B.c,0,none⟩),.int .i64 (x:Int)] V fun e w''=>e=.returned (.bool true)/\aa F V w''/\∃st',aF w'' B.c F (bz A x) st'
theorem Gr(h:nZ w B F Z gr A st)(x:Nat)(hin:bS A (x:Int)=true) :
  Calls Tryz.prog 136 #[.pointer (some ⟨B.n0,0,none⟩),.int .i64 (x:Int)] w fun e w'=>e=.returned (.bool true)/\Goes (B.blk F Z gr) w w' (fun F'=>∃Z' st',F'=B.blk F Z' gr/\nZ w' B F Z' gr (bz A x) st'):=by
 obtain⟨cr,ptr,G,L,hM,hI⟩:=h;have hok:=hM.cells.ok;have hcs:=hok.c1;have hin2:=(ah _ _).1 hin;have hhas:=iX hok hin;rw[π]at hhas;obtain⟨g,hg⟩:∃g:Nat,(A.c x).i=g:=⟨(A.c x).i.toNat,ω⟩;rw[hg]at hhas;have hgN:=(aV _ _).1 hhas;have hxm:x∈L g:=(hI.mem g x hhas).2 ⟨hin2.1,hg⟩;have Qx:=hI.many hhas;obtain⟨rp,hp, -⟩:=hM.lL.row g hhas;have kh:∀W,aa [] w W->Calls Tryz.prog 140 #[.pointer (some ⟨B.c,0,none⟩),.int .i64 (x:Int)] W fun e w2=>e=.returned (.tuple #[.int .i64 (g:Int),.bool true])/\aa F W w2/\RemR B F Z gr cr A st ptr G L g rp x w2:=fun W hW=>by
  have k:=dQ (hM.au hW).cells x hin;rw[hg]at k;refine k.mono ?_;rintro e w2 ⟨rfl,hC2,hu2⟩;have hM2:=(hM.au hW).cB hu2 hC2 (fun x hx=>Or.inl hx) rfl;refine⟨rfl,hu2,hM2,fun Y hY=>?_⟩;have MF:=hM2.au hY;obtain⟨rp',hp',hRY⟩:=MF.lL.row g hhas;rw[hp]at hp';cases hp';have Sy:mH Y rp (G g) B.d (L g):=hRY;refine(FW (Vd B F A MF.cells.mem) MF.ord Sy hM.dd ω x hxm (hI.nd g hhas) (hI.hp g hhas) (fun y hy=>(hI.len hhas hy).2.1) (fun y hy=>by have:=(hI.len hhas hy).1;omega) (MF.clear hhas)).mono ?_;rintro e w' ⟨rfl,L',h1,h2,h3,h4,h5⟩;refine⟨rfl,L',_,h1,h2,h3,h4,h5,fun V hV=>?_⟩;obtain⟨-, -,st',hC⟩:=h4
  refine(iq (hC.au hV) x hin).mono ?_;rintro e w'' ⟨rfl,hC',hu'⟩;exact⟨rfl,hu',st',hC'⟩
 have c0:=hM.h0;have c2:=hM.h2;have cg:=hM.lL.cell ω hp;have hlt:=hM.lt;have HX:=χ (ψ hM (ψ hI (ψ hp (ψ hhas (ψ hxm hlt)))));have n1:B.n0∉F++Z:=fun hm=>by rcases τ.1 hm with e|e;exact hM.bG.1 e;exact(hM.lC _ e).2 rfl
 have n2:gr∉F++Z:=fun hm=>by rcases τ.1 hm with e|e;exact hM.bG.2.1 e;exact hM.lL.Uw e
 have TB:(g:Int)<(A.hs.length:Int):=ω;have hgz:∀z,z∈G g++[B.c]->z∈F++Z:=fun z hz=>by
  rcases τ.1 hz with e|e
  ·exact τ.2 (Or.inr (hM.lL.yT g hhas z e))
  ·simp at e;rw[e];exact τ.2 (Or.inl hM.cells.mem)
 clear hM hI hok hcs hin2 hhas hgN hxm Qx hp hlt;generalize A.hs.length=m at *
 go_enter Tryz.func136,Tryz.ntmps136
 go_upto_region 2 with(first
  | ((go_at_call 140;(with_reducible refine(kh _ β).mono ?_));rintro e w2 ⟨rfl,hu2,hM2,ZU⟩)
  | fail)
 have WY:aa (F++Z) w w2:=hu2.mono (fun z hz=>τ.2 (Or.inl hz));have e2:∀X,aa (F++Z) w2 X->X.cell? ⟨B.n0,0,none⟩=some (.pointer (some ⟨B.c,0,none⟩)):=fun X h=>(WY.trans h).kept c0 n1;have e3:∀X,aa (F++Z) w2 X->X.cell? ⟨B.n0,2,none⟩=some (.slice (some ⟨gr,0,none⟩) m cr):=fun X h=>(WY.trans h).kept c2 n1;have e4:∀X,aa (F++Z) w2 X->X.cell? ⟨gr,g,none⟩=some (.pointer (some ⟨rp,0,none⟩)):=fun X h=>(WY.trans h).kept cg n2;clear c0 c2 cg kh hu2;have a2:=e2 w2 (aa.refl _ _);have a3:=e3 w2 (aa.refl _ _);have a4:=e4 w2 (aa.refl _ _)
 go_wp2_with (first
   | ((go_at_call 150;(with_reducible refine(ZU _ ν).mono ?_));rintro e w3 ⟨rfl,L',hc,hR3,hp3,hH3,hO3,hu3,SI⟩;(have hv3:aa (F++Z) w2 w3:=aa.trans ν (hu3.mono hgz));(have b2:=e2 w3 hv3);(have b3:=e3 w3 hv3);(have b4:=e4 w3 hv3))
   | ((go_at_call 151;(with_reducible refine(SI _ ν).mono ?_));rintro e w4 ⟨rfl,gX,Xr,Qp⟩;(have hv4:aa (F++Z) w2 w4:=aa.trans hv3 (gX.mono (fun z hz=>τ.2 (Or.inl hz)))))
   | fail)
 obtain⟨hM,hI,hp,hhas,hxm,hlt⟩:=HX.out;have Ya:aa (G g++[B.c]) w2 w3:=aa.trans ν hu3;have Wd:aa F w3 w4:=aa.trans ν gX;obtain⟨st',jR⟩:=hM2.Bc hhas hp Ya hR3 (fun z hz=>Or.inl hz) hO3;have rW:=jR.cB Wd Qp (fun x hx=>Or.inl hx) (iW _ _);have UH:=hI.drop hM.dd.1 hhas hxm hp3 hH3;go_ret;refine⟨rfl,B.blk F (Z++G g) gr,⟨Z++G g,Xr,rfl,cr,ptr,_,_,rW,UH⟩,(WY.trans hv4).mono (fun z hz=>?_),fun z hz=>Or.inl ?_⟩
 ·simp only[DB.blk,ρ,τ]at hz⊢;exact Or.inr (Or.inr hz)
 ·simp only[DB.blk,ρ,τ]at hz⊢;rcases hz with h|h|h|h|h
  ·exact Or.inl h
  ·exact Or.inr (Or.inl h)
  ·exact Or.inr (Or.inr (Or.inl h))
  ·exact Or.inr (Or.inr (Or.inr h))
  ·exact Or.inr (Or.inr (Or.inr (hM.lL.yT g hhas z h)))
theorem Cc(h:nZ w B F Z gr A st)(g m:Nat)(hm:dL A g=some m) :
  Calls Tryz.prog 138 #[.pointer (some ⟨B.n0,0,none⟩),.int .i64 (g:Int)] w fun e w'=>e=.returned (.tuple #[.int .i64 (m:Int),.bool true])/\Goes (B.blk F Z gr) w w' (fun F'=>∃Z' st',F'=B.blk F Z' gr/\nZ w' B F Z' gr (bz A m) st'):=by
 have hin:=(lK hm).2.2.2;have hok:A.Ok:=by obtain⟨cr,ptr,G,L,hM,hI⟩:=h;exact hM.cells.ok
 have hhas:bJ A g=true:=by
  have:=iX hok hin;rw[π,(lK hm).2.2.1]at this;exact this
 have km:=G5 h g hhas;rw[hm,show qh (some m)=(m:Int)from rfl,show(some m).isSome=true from rfl]at km;have kd:=Gr h m hin;clear h hm hin hok hhas
 go_enter Tryz.func138,Tryz.ntmps138
 go_wp2_with (first
  | (go_at_call 145;(with_reducible refine(km).mono ?_);rintro e w9 ⟨rfl,aJ⟩;rw[aJ];clear aJ w9)
  | ((go_at_call 136;(with_reducible refine(kd).mono ?_));rintro e w2 ⟨rfl,hg⟩)
  | fail)
 go_ret2;exact⟨rfl,hg⟩
end
section
variable {w w':World}{B:HB}{F Z:List Nat}{gr cr st:Nat}{A:NS}{ptr:Nat->Option Nat}{G L:Nat->List Nat}{T:List Nat}
theorem HB.EU(B:HB){F Z:List Nat}{gr z:Nat}(hz:z∈F):z∈B.blk F Z gr:=by simp only[HB.blk,ρ,τ];exact Or.inr (Or.inr (Or.inr (Or.inl hz)))
theorem HB.Er(B:HB){F Z:List Nat}{gr z:Nat}(hz:z∈Z):z∈B.blk F Z gr:=by simp only[HB.blk,ρ,τ];exact Or.inr (Or.inr (Or.inr (Or.inr hz)))
def ReR(B:HB)(F Z:List Nat)(gr cr:Nat)(A:NS)(st:Nat)(ptr:Nat->Option Nat)(G L:Nat->List Nat)(T:List Nat)(g rp gs cap i x:Nat)(w2:World):Prop:=ShM w2 B F Z gr cr A st ptr G L T/\∀Y,aa [] w2 Y->
 Calls Tryz.prog 278 #[.iface 317 (.pointer (some ⟨rp,0,none⟩)),.int .i64 (i:Int)] Y fun e w'=>e=.returned (.iface 3 (.int .i64 (x:Int)))/\ReE Y B F A rp gs cap (L g) T x w'/\
  ∀V,aa [] w' V->Calls Tryz.prog 151 #[.pointer (some ⟨B.c,0,none⟩),.int .i64 (x:Int)] V fun e w''=>e=.returned (.bool true)/\aa F V w''/\∃st',aF w'' B.c F (bz A x) st'
theorem EN(h:ShAt w B F Z gr A st)(x:Nat)(hin:bS A (x:Int)=true) :
  Calls Tryz.prog 271 #[.pointer (some ⟨B.n0,0,none⟩),.int .i64 (x:Int)] w fun e w'=>e=.returned (.bool true)/\Goes (B.blk F Z gr) w w' (fun F'=>∃Z' st',F'=B.blk F Z' gr/\ShAt w' B F Z' gr (bz A x) st'):=by
 obtain⟨cr,ptr,G,L,T,hM,hI⟩:=h;have hok:=hM.cells.ok;have hcs:=hok.c1;have hin2:=(ah _ _).1 hin;have hhas:=iX hok hin;rw[π]at hhas;obtain⟨g,hg⟩:∃g:Nat,(A.c x).i=g:=⟨(A.c x).i.toNat,ω⟩;rw[hg]at hhas;have hgN:=(aV _ _).1 hhas;have hxm:x∈L g:=(hI.di.mem g x hhas).2 ⟨hin2.1,hg⟩;obtain⟨i,hi,hxi⟩:=List.mem_iff_getElem.1 hxm;have hx:(L g)[i]?=some x:=by rw[ε hi,hxi]
 have hdom:∀y,y∈L g->bS A (y:Int)=true/\y<T.length:=fun y hy=>⟨(hI.di.len hhas hy).2.1,by rw[hM.tl];exact(hI.di.len hhas hy).1⟩
 have hTx:T.getD x 0=i:=hI.Bz g hhas i x hx;have JO:x<T.length:=by rw[hM.tl];exact hin2.1
 obtain⟨rp,v,hp,De,LZ⟩:=hM.pile hhas hdom (hI.di.nd g hhas) (hI.Bz g hhas);obtain⟨gs,cap,hv, -⟩:=LZ.full ω;have vX:G g=[rp,gs]:=by rw[De,hv];rfl
 have kh:∀W,aa [] w W->Calls Tryz.prog 140 #[.pointer (some ⟨B.c,0,none⟩),.int .i64 (x:Int)] W fun e w2=>e=.returned (.tuple #[.int .i64 (g:Int),.bool true])/\aa F W w2/\ReR B F Z gr cr A st ptr G L T g rp gs cap i x w2:=fun W hW=>by
  have k:=dQ (hM.au hW).cells x hin;rw[hg]at k;refine k.mono ?_;rintro e w2 ⟨rfl,hC2,hu2⟩;have hM2:=(hM.au hW).cB hu2 hC2 (fun x hx=>Or.inl hx) rfl rfl;refine⟨rfl,hu2,hM2,fun Y hY=>?_⟩;have hPY:=(LZ.au hW);obtain⟨rp',v',hp',ZC,hP⟩:=(hM2.au hY).pile hhas hdom (hI.di.nd g hhas) (hI.Bz g hhas);rw[hp]at hp';cases hp';obtain⟨gs',cap',hv',hPM⟩:=hP.full ω;have eg:gs'=gs:=by
   rw[vX,hv']at ZC;have:([rp,gs]:List Nat)=[rp,gs']:=ZC;simp at this;exact this.symm
  subst eg;have hc:cap'=cap:=by
   have r1:=hPM.h1;have VF:w.cell? ⟨rp,1,none⟩=some (.slice (some ⟨gs',0,none⟩) (L g).length cap):=by
    rw[←hv];exact LZ.hd.cellAt 1 ω rfl
   have QN:rp∉F:=LZ.s3.1;have r2:=((hu2.kept (hW.was VF) QN));have r3:=hY.was r2;rw[r1]at r3;simpa using r3
  subst hc;refine(Iw hPM i x hx (hI.di.hp g hhas)).mono ?_;rintro e w' ⟨rfl,hR⟩;refine⟨rfl,hR,fun V hV=>?_⟩;obtain⟨L',T',hE, -⟩:=hR;obtain⟨st',hC⟩:=hE.O9;refine(iq (hC.au hV) x hin).mono ?_;rintro e w'' ⟨rfl,hC',hu'⟩;exact⟨rfl,hu',st',hC'⟩
 have c0:=hM.h0;have c2:=hM.h1;have c3:=hM.h2;have cg:=hM.lL.cell ω hp;have ct:=hM.H9 x JO;rw[hTx]at ct;have hlt:=hM.lt;have n1:B.n0∉F:=hM.bG.1;have n2:gr∉F:=hM.bG.2.1;have n3:B.ga∉F:=hM.bG.2.2;have n4:B.n0∉[rp,gs,B.ga,B.c]:=by
  have h1:=LZ.s1;have h2:=LZ.sg gs (by rw[hv];rfl);simp;exact⟨fun e=>h1.2 e.symm,fun e=>h2.2.2.1 e.symm,fun e=>hM.sep.2.1 e.symm,fun e=>n1 (by rw[e];exact hM.cells.mem)⟩
 have TB:(g:Int)<(A.hs.length:Int):=ω;have BN:(x:Int)<(T.length:Int):=ω;have hil:i<=65536:=by have:=LZ.len;omega
 have HX:=χ (ψ hM (ψ hI (ψ hp (ψ hhas (ψ hxm (ψ hlt (ψ vX hin)))))));clear hM hI hok hcs hin hin2 hhas hgN hxm hxi hx hdom hTx JO hp De LZ hv vX hlt hi hg;generalize A.hs.length=m at *;generalize T.length=nt at *
 go_enter Tryz.func271,Tryz.ntmps271
 go_upto_region 4 with(first
  | ((go_at_call 140;(with_reducible refine(kh _ β).mono ?_));rintro e w2 ⟨rfl,hu2,hM2,ZU⟩)
  | fail)
 have a0:∀X,aa [] w2 X->X.cell? ⟨B.n0,1,none⟩=some (.slice (some ⟨gr,0,none⟩) m cr):=fun X hX=>hX.was (hu2.kept c2 n1);have a1:∀X,aa [] w2 X->X.cell? ⟨B.n0,2,none⟩=some (.slice (some ⟨B.ga,0,none⟩) nt nt):=fun X hX=>hX.was (hu2.kept c3 n1);have a2:∀X,aa [] w2 X->X.cell? ⟨gr,g,none⟩=some (.pointer (some ⟨rp,0,none⟩)):=fun X hX=>hX.was (hu2.kept cg n2);have a3:∀X,aa [] w2 X->X.cell? ⟨B.ga,x,none⟩=some (.int .i64 (i:Int)):=fun X hX=>hX.was (hu2.kept ct n3);have z0:=hu2.kept c0 n1;clear c0 c2 c3 cg ct kh;have b1:=a0 _ (aa.refl [] w2);have b2:=a1 _ (aa.refl [] w2);have b3:=a2 _ (aa.refl [] w2)
 have b4:=a3 _ (aa.refl [] w2)
 go_region_law
  (first
   | (go_simp;go_at_call 278;(with_reducible refine(ZU _ ν).mono ?_);rintro e w3 ⟨rfl,hR,SI⟩;(have hv3:aa [rp,gs,B.ga,B.c] w2 w3:=by obtain⟨_,_,_,_,_,_,_,hu⟩:=hR;exact aa.trans ν hu);(have z1:=hv3.kept z0 n4)))
 all_goals
  go_wp2_with (first
   | ((go_at_call 151;(with_reducible refine(SI _ ν).mono ?_));rintro e w4 ⟨rfl,gX,Xr,Qp⟩)
   | fail)
  go_ret;obtain⟨hM,hI,hp,hhas,hxm,hlt,vX,hin⟩:=HX.out;obtain⟨L',T',hE,hp3,hH3,hoff,OQ, -⟩:=hR;have Wd:aa F w3 w4:=aa.trans ν gX;have TF:∀z,z∈G g->z∈Z:=hM.lL.yT g hhas
  obtain⟨st',jR⟩:=hM2.Bc hhas hp hv3 (fun z hz=>by
   simp only[ρ,ς,or_false]at hz;rw[vX];rcases hz with e|e|e|e
   ·exact Or.inl (by simp[e])
   ·exact Or.inl (by simp[e])
   ·exact Or.inr (Or.inl e)
   ·exact Or.inr (Or.inr e)) (by rw[vX];simp) hE OQ (fun k hk=>by cases hk;rw[vX];simp)
  have rW:=jR.cB Wd Qp (fun x hx=>Or.inl hx) (iW _ _) (fG _ _)
  have UH:=hI.turn (hI.di.drop ω hhas hxm hp3 hH3) (fun q=>by unfold bJ;rw[iW]) hhas hE.Bz (fun y _ h2=>hoff y h2) (fun q y e hq hy=>by
   have h2:=hI.di.apart e hq hhas hy
   exact⟨fun hm=>h2 (hp3.mem_iff.1 (List.mem_cons_of_mem _ hm)),h2⟩)
  refine⟨rfl,B.blk F (Z++(rp::Option.toList (some gs))) gr,⟨_,Xr,rfl,cr,ptr,_,_,T',rW,UH⟩,((hu2.mono (fun z hz=>B.EU hz)).trans (hv3.mono (fun z hz=>?_))).trans (Wd.mono (fun z hz=>B.EU hz)),fun z hz=>Or.inl ?_⟩
  ·simp only[ρ,ς,or_false]at hz;rcases hz with e|e|e|e
   ·exact B.Er (TF z (by rw[vX];simp[e]))
   ·exact B.Er (TF z (by rw[vX];simp[e]))
   ·simp[HB.blk,e]
   ·exact B.EU (by rw[e];exact hM.cells.mem)
  ·simp only[HB.blk,ρ,τ,Option.toList_some,ς,or_false]at hz;rcases hz with h|h|h|h|h|h|h
   ·simp[HB.blk,h]
   ·simp[HB.blk,h]
   ·simp[HB.blk,h]
   ·exact B.EU h
   ·exact B.Er h
   ·exact B.Er (TF z (by rw[vX];simp[h]))
   ·exact B.Er (TF z (by rw[vX];simp[h]))
theorem AQ(h:ShAt w B F Z gr A st)(g:Int)(m:Nat)(hm:dL A g=some m) :
  Calls Tryz.prog 272 #[.pointer (some ⟨B.n0,0,none⟩),.int .i64 g] w fun e w'=>e=.returned (.tuple #[.int .i64 (m:Int),.bool true])/\Goes (B.blk F Z gr) w w' (fun F'=>∃Z' st',F'=B.blk F Z' gr/\ShAt w' B F Z' gr (bz A m) st'):=by
 obtain⟨q,rfl,hq,hin⟩:∃q:Nat,g=q/\bJ A q=true/\bS A (m:Int)=true:=by
  obtain⟨cr,ptr,G,L,T,hM,hI⟩:=h;obtain⟨q,rfl,hq,hmq⟩:=hI.di.V8 hm hM.cells.ok;exact⟨q,rfl,hq,(hI.di.len hq hmq).2.1⟩
 have km:=Dm h q hq;rw[hm]at km;have kd:=fun W (hW:aa [] w W)=>EN (h.au hW) m hin;clear h hm hin hq;have km':Calls Tryz.prog 276 #[.pointer (some ⟨B.n0,0,none⟩),.int .i64 (q:Int)] w fun e w'=>e=.returned (.tuple #[.int .i64 (m:Int),.bool true])/\w'=w:=km;clear km
 go_enter Tryz.func272,Tryz.ntmps272
 go_wp2_with (first
  | (go_at_call 276;(with_reducible refine(km').mono ?_);rintro e w9 ⟨rfl,aJ⟩;rw[aJ];clear aJ w9)
  | ((go_at_call 271;(with_reducible refine(kd _ (aa.refl _ _)).mono ?_));rintro e w2 ⟨rfl,hG⟩)
  | fail)
 go_ret2;exact⟨rfl,hG⟩
end
section
variable {w w':World}{B:HB}{F Z:List Nat}{gr cr st:Nat}{A:NS}{ptr:Nat->Option Nat}{G L:Nat->List Nat}{T:List Nat}
def FiR(B:HB)(F Z:List Nat)(gr cr:Nat)(A:NS)(st:Nat)(ptr:Nat->Option Nat)(G L:Nat->List Nat)(T:List Nat)(g rp gs cap i:Nat)(w2:World):Prop:=ShM w2 B F Z gr cr A st ptr G L T/\∀Y,aa [] w2 Y->
 Calls Tryz.prog 277 #[.iface 317 (.pointer (some ⟨rp,0,none⟩)),.int .i64 (i:Int)] Y fun e w'=>e=.returned (.tuple #[])/\∃L' T',mF Y B F A rp gs cap [] (L g) T w' L' T'/\Hp (oJ A) 2 L'
theorem OA(h:ShAt w B F Z gr A st)(x:Nat)(k s:Int)(hk:-9223372036854775808<=k/\k<=9223372036854775807/\0<=s/\s<=18446744073709551615)(hB:jg A x k s=true) :
  Calls Tryz.prog 270 #[.pointer (some ⟨B.n0,0,none⟩),.int .i64 (x:Int),.agg #[.int .i64 k,.int .u64 s]] w fun e w'=>e=.returned (.bool true)/\Goes (B.blk F Z gr) w w' (fun F'=>∃Z' st',F'=B.blk F Z' gr/\ShAt w' B F Z' gr (ay A x k s) st'):=by
 obtain⟨cr,ptr,G,L,T,hM,hI⟩:=h;have hok:=hM.cells.ok;have hcs:=hok.c1;have hin:=rq hB;have hin2:=(ah _ _).1 hin;have hhas:=iX hok hin;rw[π]at hhas;obtain⟨g,hg⟩:∃g:Nat,(A.c x).i=g:=⟨(A.c x).i.toNat,ω⟩;rw[hg]at hhas;have hgN:=(aV _ _).1 hhas;have hxm:x∈L g:=(hI.di.mem g x hhas).2 ⟨hin2.1,hg⟩;obtain⟨i,hi,hxi⟩:=List.mem_iff_getElem.1 hxm;have hx:(L g)[i]?=some x:=by rw[ε hi,hxi]
 obtain⟨WQ,hBe⟩:=hI.di.LQ ω hB hhas hx;have o9:(ay A x k s).hs=A.hs:=lJ _ _ _ _;have J4:(ay A x k s).cs.length=A.cs.length:=fE _ _ _ _;have iB:bJ (ay A x k s) g=true:=by have:=hhas;unfold bJ at this⊢;rw[o9];exact this
 have hin':bS (ay A x k s) (x:Int)=true:=(ah _ _).2 ⟨by rw[fE];exact hin2.1,by rw[iM hB hin2.1];exact hin2.2⟩;have hgi':((ay A x k s).c x).i=g:=by rw[iM hB hin2.1];exact hg
 have hdom:∀y,y∈L g->bS A (y:Int)=true/\y<T.length:=fun y hy=>⟨(hI.di.len hhas hy).2.1,by rw[hM.tl];exact(hI.di.len hhas hy).1⟩
 have Ij:∀y,y∈L g->bS (ay A x k s) (y:Int)=true/\y<T.length:=fun y hy=>by
  have h1:=(hI.di.mem g y hhas).1 hy;exact⟨(ah _ _).2 ⟨by rw[fE];exact h1.1,by rw[iM hB hin2.1];omega⟩,by rw[hM.tl];exact h1.1⟩
 have hTx:T.getD x 0=i:=hI.Bz g hhas i x hx;have JO:x<T.length:=by rw[hM.tl];exact hin2.1
 obtain⟨rp,v,hp,De,LZ⟩:=hM.pile hhas hdom (hI.di.nd g hhas) (hI.Bz g hhas);obtain⟨gs,cap,hv, -⟩:=LZ.full ω;have vX:G g=[rp,gs]:=by rw[De,hv];rfl
 have VF:w.cell? ⟨rp,1,none⟩=some (.slice (some ⟨gs,0,none⟩) (L g).length cap):=by rw[←hv];exact LZ.hd.cellAt 1 ω rfl
 have QN:rp∉F:=LZ.s3.1;have QQ:∀W (hW:aa [] w W),Calls Tryz.prog 147 #[.pointer (some ⟨B.c,0,none⟩),.int .i64 (x:Int),.agg #[.int .i64 k,.int .u64 s]] W fun e w2=>e=.returned (.bool true)/\ShM w2 B F Z gr cr (ay A x k s) st ptr G L T/\aa F W w2:=fun W hW=>(iE (hM.au hW).cells x k s hk hB).mono (fun e w2 h=>⟨h.1,(hM.au hW).cB h.2.2 h.2.1 (fun x hx=>Or.inl hx) o9 J4,h.2.2⟩)
 have Xx:∀w2,ShM w2 B F Z gr cr (ay A x k s) st ptr G L T->aa F w w2->Calls Tryz.prog 140 #[.pointer (some ⟨B.c,0,none⟩),.int .i64 (x:Int)] w2 fun e w3=>e=.returned (.tuple #[.int .i64 (g:Int),.bool true])/\aa F w2 w3/\FiR B F Z gr cr (ay A x k s) st ptr G L T g rp gs cap i w3:=fun w2 hM2 SA=>by
  have kk:=dQ hM2.cells x hin';rw[hgi']at kk;refine kk.mono ?_;rintro e w3 ⟨rfl,yU,hu3⟩;have jR:=hM2.cB hu3 yU (fun x hx=>Or.inl hx) rfl rfl;refine⟨rfl,hu3,jR,fun Y hY=>?_⟩;obtain⟨rp',v',hp',ZC,hP⟩:=(jR.au hY).pile iB Ij (hI.di.nd g hhas) (hI.Bz g hhas);rw[hp]at hp';cases hp';obtain⟨gs',cap',hv',hPM⟩:=hP.full ω;have r3:=hY.was (hu3.kept (SA.kept VF QN) QN);have r1:=hPM.h1;rw[r1]at r3;simp at r3;obtain⟨rfl,rfl⟩:=r3;exact QI hPM i WQ
 have c0:=hM.h0;have c2:=hM.h1;have c3:=hM.h2;have cg:=hM.lL.cell ω hp;have ct:=hM.H9 x JO;rw[hTx]at ct;have hlt:=hM.lt;have n1:B.n0∉F:=hM.bG.1;have n2:gr∉F:=hM.bG.2.1;have n3:B.ga∉F:=hM.bG.2.2;have n5:∀z,z∈F->z<w.heap.size:=fun z hm=>hlt z (B.EU hm);have TB:(g:Int)<(A.hs.length:Int):=ω;have BN:(x:Int)<(T.length:Int):=ω;have hil:i<=65536:=by have:=LZ.len;omega
 have HX:=χ (ψ hM (ψ hI (ψ hp (ψ hhas (ψ iB (ψ hxm (ψ hlt (ψ vX (ψ hB o9)))))))));clear hM hI hok hcs hin hin2 hhas hgN hxm hxi hx hdom hTx JO hp De LZ hv vX hlt hi hg WQ hBe o9 J4 iB hin' hgi' Ij VF QN;generalize A.hs.length=m at *;generalize T.length=nt at *
 go_enter Tryz.func270,Tryz.ntmps270
 go_upto_region 1 with(fail)
 refine jk (fun W=>W.cell? ⟨w.heap.size,0,none⟩=some (.int .i64 k)/\W.cell? ⟨w.heap.size,1,none⟩=some (.int .u64 s)/\aa [] w W) ⟨γ,γ,β⟩ ?_;rintro W ⟨x0,x1,hW⟩;have hb:w.heap.size∉F:=fun hm=>by have:=n5 _ hm;omega
 have e0:∀X,aa F W X->X.cell? ⟨w.heap.size,0,none⟩=some (.int .i64 k):=fun X h=>h.kept x0 hb;have e1:∀X,aa F W X->X.cell? ⟨w.heap.size,1,none⟩=some (.int .u64 s):=fun X h=>h.kept x1 hb;have e2:∀X,aa F W X->X.cell? ⟨B.n0,0,none⟩=some (.pointer (some ⟨B.c,0,none⟩)):=fun X h=>h.kept (hW.was c0) n1;have HW:=χ (ψ hW (ψ c2 (ψ c3 (ψ cg ct))));have GX:=fun X (hX:aa [] W X)=>QQ X (hW.trans hX);clear QQ x0 x1 hW c0 c2 c3 cg ct
 go_region_held3 (aa F W) (exact ν)
  (first
   | ((go_at_call 147;(with_reducible refine(GX _ ν).mono ?_));rintro e w2 ⟨rfl,hM2,hu2⟩;(have hv2:aa F W w2:=aa.trans ν hu2)))
 obtain⟨hW,c2,c3,cg,ct⟩:=HW.out;have SA:aa F w w2:=(hW.mono σ).trans hv2;have kh2:=Xx w2 hM2 SA;have q0:=hM2.h0;have p2:=SA.kept c2 n1;have p3:=SA.kept c3 n1;have p4:=SA.kept cg n2;have p5:=SA.kept ct n3;have HV:=χ (ψ SA hM2);clear e0 e1 e2 GX Xx hW c2 c3 cg ct SA hM2 hv2 hu2
 go_upto_region 4 with(first
  | ((go_at_call 140;(with_reducible refine(kh2).mono ?_));rintro e w3 ⟨rfl,hu3,jR,kfix⟩)
  | fail)
 have a0:∀X,aa [] w3 X->X.cell? ⟨B.n0,1,none⟩=some (.slice (some ⟨gr,0,none⟩) m cr):=fun X hX=>hX.was (hu3.kept p2 n1);have a1:∀X,aa [] w3 X->X.cell? ⟨B.n0,2,none⟩=some (.slice (some ⟨B.ga,0,none⟩) nt nt):=fun X hX=>hX.was (hu3.kept p3 n1);have a2:∀X,aa [] w3 X->X.cell? ⟨gr,g,none⟩=some (.pointer (some ⟨rp,0,none⟩)):=fun X hX=>hX.was (hu3.kept p4 n2);have a3:∀X,aa [] w3 X->X.cell? ⟨B.ga,x,none⟩=some (.int .i64 (i:Int)):=fun X hX=>hX.was (hu3.kept p5 n3);have b1:=a0 _ (aa.refl [] w3);have b2:=a1 _ (aa.refl [] w3);have b3:=a2 _ (aa.refl [] w3);have b4:=a3 _ (aa.refl [] w3)
 clear p2 p3 p4 p5 q0 kh2
 go_region_law
  (first
   | (go_simp;go_at_call 277;(with_reducible refine(kfix _ ν).mono ?_);rintro e w4 ⟨rfl,L',T',hG4,hH4⟩;(have hv4:aa [gs,B.ga,B.c] w3 w4:=aa.trans ν hG4.upd)))
 all_goals
  go_wp2;go_ret;obtain⟨hM,hI,hp,hhas,iB,hxm,hlt,vX,hB,o9⟩:=HX.out;obtain⟨SA,hM2⟩:=HV.out;have hpm:=hG4.pi;rw[List.append_nil]at hpm;have TF:∀z,z∈G g->z∈Z:=hM.lL.yT g hhas
  obtain⟨st',rW⟩:=jR.Bc iB hp hv4 (fun z hz=>by
   simp only[ρ,ς,or_false]at hz;rw[vX];rcases hz with e|e|e
   ·exact Or.inl (by simp[e])
   ·exact Or.inr (Or.inl e)
   ·exact Or.inr (Or.inr e)) (by rw[vX];simp) hpm.any hG4.tl (fun k hk=>by cases hk;rw[vX];simp)
  have UH:=hI.turn (hI.di.low ω hB hhas hxm hG4.perm hH4) (fun q=>by unfold bJ;rw[o9]) hhas hpm.Bz (fun y _ h2=>hG4.off y (by rw[List.append_nil];exact h2)) (fun q y e hq hy=>by
   have h2:=hI.di.apart e hq hhas hy
   exact⟨fun hm=>h2 (hG4.perm.mem_iff.1 hm),h2⟩)
  refine⟨rfl,B.blk F (Z++(rp::Option.toList (some gs))) gr,⟨_,st',rfl,cr,ptr,_,_,T',rW,UH⟩,((SA.mono (fun z hz=>B.EU hz)).trans (hu3.mono (fun z hz=>B.EU hz))).trans (hv4.mono (fun z hz=>?_)),fun z hz=>Or.inl ?_⟩
  ·simp only[ρ,ς,or_false]at hz;rcases hz with e|e|e
   ·exact B.Er (TF z (by rw[vX];simp[e]))
   ·simp[HB.blk,e]
   ·exact B.EU (by rw[e];exact hM.cells.mem)
  ·simp only[HB.blk,ρ,τ,Option.toList_some,ς,or_false]at hz;rcases hz with h|h|h|h|h|h|h
   ·simp[HB.blk,h]
   ·simp[HB.blk,h]
   ·simp[HB.blk,h]
   ·exact B.EU h
   ·exact B.Er h
   ·exact B.Er (TF z (by rw[vX];simp[h]))
   ·exact B.Er (TF z (by rw[vX];simp[h]))
end
end Go.Proofs.YtklibcncmbofpaaGreat
namespace Go.Proofs.YtklibcncmbofpaaGreat
open Go.RowKit
def arity(k d:Int):Int:=if k=1 then 2 else d
theorem Py(k d:Int)(hc:yS k d=0)(w:World) :
  Calls Tryz.prog 92 #[.agg #[.int .i64 k,.int .i64 d]] w fun e w'=>e=.returned (.int .i64 (arity k d))/\aa [] w w':=by
 have kc:=fun W=>yj k d W;rw[hc]at kc;unfold arity;clear hc
 by_cases h1:k=1
 ·rw[if_pos h1];subst h1
  go_enter Tryz.func92,Tryz.ntmps92
  go_wp2_with (first|((go_at_call 50;(with_reducible refine(kc _).mono ?_));rintro e w1 ⟨rfl,hb⟩;obtain⟨hc,hf⟩:=XH hb)|fail)
  go_ret;exact⟨rfl,((aa.refl _ _).alloc _).trans (hb.mono σ)⟩
 ·rw[if_neg h1];have h2:(k == 1)=false:=by simpa using h1
  go_enter Tryz.func92,Tryz.ntmps92
  go_wp2_with (first|((go_at_call 50;(with_reducible refine(kc _).mono ?_));rintro e w1 ⟨rfl,hb⟩;obtain⟨hc,hf⟩:=XH hb)|fail)
  go_ret;exact⟨rfl,((aa.refl _ _).alloc _).trans (hb.mono σ)⟩
end Go.Proofs.YtklibcncmbofpaaGreat
namespace Go.Proofs.YtklibcncmbofpaaGreat
open Go Go.RowKit
theorem Jd(p c:Nat):∀W:World,W.cell? ⟨p,0,none⟩=some (.pointer (some ⟨c,0,none⟩))->(method 429 170 (.pointer (some ⟨p,0,none⟩)) "Has").run Tryz.prog W=.ok (139,.pointer (some ⟨c,0,none⟩)) W:=(by intro W h;unfold method;have hm:∃m,(Array.find? (fun x=>x.name == "Has") Tryz.t170.methods)=some m/\m.path.toList=[⟨207,0,true⟩]/\m.func=some (139,true)/\m.path.isEmpty=false:=⟨(Array.find? (fun x=>x.name == "Has") Tryz.t170.methods).get!,by kernel_rfl,by kernel_rfl,by kernel_rfl,by kernel_rfl⟩;obtain⟨m,h1,h2,h3,h4⟩:=hm;go_simp;simp only[follow,Place.get];go_simp;(try unfold receiverAt);(try simp only[Place.get]);(try go_simp))
theorem Ez(p c:Nat):∀W:World,W.cell? ⟨p,0,none⟩=some (.pointer (some ⟨c,0,none⟩))->(method 429 170 (.pointer (some ⟨p,0,none⟩)) "Entry").run Tryz.prog W=.ok (137,.pointer (some ⟨c,0,none⟩)) W:=(by intro W h;unfold method;have hm:∃m,(Array.find? (fun x=>x.name == "Entry") Tryz.t170.methods)=some m/\m.path.toList=[⟨207,0,true⟩]/\m.func=some (137,true)/\m.path.isEmpty=false:=⟨(Array.find? (fun x=>x.name == "Entry") Tryz.t170.methods).get!,by kernel_rfl,by kernel_rfl,by kernel_rfl,by kernel_rfl⟩;obtain⟨m,h1,h2,h3,h4⟩:=hm;go_simp;simp only[follow,Place.get];go_simp;(try unfold receiverAt);(try simp only[Place.get]);(try go_simp))
theorem V5(p:Nat):∀W:World,(method 429 170 (.pointer (some ⟨p,0,none⟩)) "Make").run Tryz.prog W=.ok (143,.pointer (some ⟨p,0,none⟩)) W:=fun _=>by kernel_rfl
theorem M0(p:Nat):∀W:World,(method 429 170 (.pointer (some ⟨p,0,none⟩)) "Insert").run Tryz.prog W=.ok (141,.pointer (some ⟨p,0,none⟩)) W:=fun _=>by kernel_rfl
theorem YP(p:Nat):∀W:World,(method 429 170 (.pointer (some ⟨p,0,none⟩)) "Min").run Tryz.prog W=.ok (145,.pointer (some ⟨p,0,none⟩)) W:=fun _=>by kernel_rfl
theorem JQ(p:Nat):∀W:World,(method 429 170 (.pointer (some ⟨p,0,none⟩)) "Extract").run Tryz.prog W=.ok (138,.pointer (some ⟨p,0,none⟩)) W:=fun _=>by kernel_rfl
theorem Gq(p:Nat):∀W:World,(method 429 170 (.pointer (some ⟨p,0,none⟩)) "Decrease").run Tryz.prog W=.ok (135,.pointer (some ⟨p,0,none⟩)) W:=fun _=>by kernel_rfl
def Y1(d:Nat)(w:World)(p:Nat)(F:List Nat)(A:NS):Prop:=∃B F1 Z gr st,p=B.n0/\F=B.blk F1 Z gr/\B.d=d/\nZ w B F1 Z gr A st
theorem Y1.of{d:Nat}{B:DB}{F1:List Nat}{gr:Nat}{A:NS}{F:List Nat}{w w':World}(hd:B.d=d)(h:Goes F w w' (fun F'=>∃Z' st',F'=B.blk F1 Z' gr/\nZ w' B F1 Z' gr A st')):Goes F w w' (fun F'=>Y1 d w' B.n0 F' A):=by
 obtain⟨F',⟨Z',st',rfl,hA⟩,hu,hf⟩:=h;exact⟨_,⟨B,F1,Z',gr,st',rfl,rfl,hd,hA⟩,hu,hf⟩
def y5(d:Nat):gW where
 ty:=170
 at_:=Y1 d
 upd:=fun h hu hS=>by
  obtain⟨B,F1,Z,gr,st,rfl,rfl,hd,hL⟩:=h;exact⟨B,F1,Z,gr,st,rfl,rfl,hd,hL.upd hu hS⟩
 lt:=fun h=>by
  obtain⟨B,F1,Z,gr,st,rfl,rfl,hd,cr,ptr,G,L,hM,hI⟩:=h;exact hM.lt
 ok:=fun h=>by
  obtain⟨B,F1,Z,gr,st,rfl,rfl,hd,cr,ptr,G,L,hM,hI⟩:=h;exact hM.cells.ok
 make:=fun {w p F A} h=>by
  obtain⟨B,F1,Z,gr,st,rfl,rfl,hd,hL⟩:=h;refine aZ 143 (fun _ _=>by kernel_rfl) (V5 _) (fun W hW=>?_);have mq:=hL.au hW
  by_cases hl:65536<A.hs.length
  ·have e1:dm A=0:=by unfold dm;rw[if_pos hl]
   have e2:aR A=A:=by unfold aR;rw[if_pos hl]
   rw[e1,e2];refine(QR mq hl).mono ?_;rintro e w' ⟨rfl,F',⟨F2,rfl,hA⟩,hu,hf⟩;exact⟨rfl,_,⟨B,F2,Z,gr,st,rfl,rfl,hd,hA⟩,hu,hf⟩
  ·have e1:dm A=A.hs.length:=by unfold dm;rw[if_neg hl]
   rw[e1];refine(MW mq hl).mono ?_;rintro e w' ⟨rfl,F',⟨F2,Z2,gr2,rfl,hA⟩,hu,hf⟩;exact⟨rfl,_,⟨B,F2,Z2,gr2,st,rfl,rfl,hd,hA⟩,hu,hf⟩
 insert:=fun {w p F A} g y k s hk hB h=>by
  obtain⟨B,F1,Z,gr,st,rfl,rfl,hd,hL⟩:=h;refine aZ 141 (fun _ _=>by kernel_rfl) (M0 _) (fun W hW=>?_);exact(Gv (hL.au hW) g y k s hk hB).mono (fun e w' h=>⟨h.1,Y1.of hd h.2⟩)
 min:=fun {w p F A} g hB h=>by
  obtain⟨B,F1,Z,gr,st,rfl,rfl,hd,hL⟩:=h;refine aZ 145 (fun _ _=>by kernel_rfl) (YP _) (fun W hW=>?_);refine(G5 (hL.au hW) g hB).mono ?_;rintro e w' ⟨rfl,rfl⟩;exact⟨rfl,Goes.stay ⟨B,F1,Z,gr,st,rfl,rfl,hd,hL.au hW⟩ (aa.refl _ _)⟩
 extract:=fun {w p F A} g m hm h=>by
  obtain⟨B,F1,Z,gr,st,rfl,rfl,hd,hL⟩:=h;refine aZ 138 (fun _ _=>by kernel_rfl) (JQ _) (fun W hW=>?_);exact(Cc (hL.au hW) g m hm).mono (fun e w' h=>⟨h.1,Y1.of hd h.2⟩)
 mD:=fun {w p F A} y k s hk hB h=>by
  obtain⟨B,F1,Z,gr,st,rfl,rfl,hd,hL⟩:=h;refine aZ 135 (fun _ _=>by kernel_rfl) (Gq _) (fun W hW=>?_);exact(Uq (hL.au hW) y k s hk hB).mono (fun e w' h=>⟨h.1,Y1.of hd h.2⟩)
 has:=fun x h=>by
  obtain⟨B,F1,Z,gr,st,rfl,rfl,hd,cr,ptr,G,L,hM,hI⟩:=h;exact iN 139 (fun _ _=>by kernel_rfl) hM.h0 (Jd _ _) (fun W hW=>jN (hM.au hW).cells x)
 entry:=fun {w p F A} x h=>by
  obtain⟨B,F1,Z,gr,st,rfl,rfl,hd,cr,ptr,G,L,hM,hI⟩:=h;refine iN 137 (fun _ _=>by kernel_rfl) hM.h0 (Ez _ _) (fun W hW=>?_);cases hin:bS A x with
  | false=>simpa using l8 (hM.au hW).cells x hin
  | true=>
   obtain⟨y,rfl⟩:=qC hin;simpa using j5 (hM.au hW).cells y hin
theorem Jf(p:Nat)(w:World):Calls Tryz.prog 90 #[.pointer (some ⟨p,0,none⟩),.int .i64 0] w fun e w'=>e=.returned (.tuple #[.iface 170 (.pointer (some ⟨p,0,none⟩)),.int .i64 0])/\w'=w:=by
 go_enter Tryz.func90,Tryz.ntmps90
 go_wp2;go_ret2;exact⟨rfl,rfl⟩
theorem Tc(kd d:Int)(n m:Nat)(hc:yS kd d=0)(hk:kd=1\/kd=2)(hm:arity kd d=(m:Int))(hn:n<=65536):pJ (y5 m) kd d n:=by
 intro w;have hd:2<=m/\m<=16:=by
  have h1:=Jc hc;unfold arity at hm;rcases hk with e|e
  ·rw[if_pos e]at hm;omega
  ·rw[if_neg ω]at hm;have:=h1.2.2.1 e;omega
 have kn:=fun W=>Q4 n m W hn hd;have km:=Jf;have ka:=fun W=>Py kd d hc W;rw[hm]at ka;have hty:(y5 m).ty=170:=rfl;have hat:∀w' B F Z gr,B.d=m->nZ w' B F Z gr (NS.new n) 0->(y5 m).at_ w' B.n0 (B.blk F Z gr) (NS.new n):=fun w' B F Z gr hd h=>⟨B,F,Z,gr,0,rfl,rfl,hd,h⟩
 generalize y5 m=K at *;rw[hty];clear hm hc;rcases hk with rfl|rfl
 all_goals
  go_enter Tryz.func81,Tryz.ntmps81
  go_wp2_with (first
   | ((go_at_call 92;(with_reducible refine(ka _).mono ?_));rintro e w0 ⟨rfl,hu0⟩)
   | ((go_at_call 91;(with_reducible refine(kn _).mono ?_));rintro e w1 ⟨B,F,gr,rfl,hS,hu1,hf,hBd⟩)
   | ((go_at_call 90;(with_reducible refine(km _ _).mono ?_));rintro e w2 ⟨rfl,rfl⟩)
   | fail)
  go_ret2;have hs:=hu0.size;exact⟨B.n0,B.blk F [] gr,rfl,hat _ _ _ _ _ hBd hS,aa.trans (aa.trans β hu0) hu1,fun x hx=>by have:=hf x hx;simp at hs;omega⟩
end Go.Proofs.YtklibcncmbofpaaGreat
