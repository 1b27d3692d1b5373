/-
  Lemmas for RankSplits: Sd10, Arity, DrQ. Conditions: those of each lemma.
-/
import Derived.Test.YtklibcncmbofpaaGreatC07
set_option linter.all false
set_option maxHeartbeats 8000000
set_option maxRecDepth 10000
namespace Go.Proofs.YtklibcncmbofpaaGreat
open Go Go.RowKit
section
variable {w w':World} {B:HB} {F Z:List Nat} {gr cr st:Nat} {A:NS} {ptr:Nat->Option Nat} {G L:Nat->List Nat} {T:List Nat}
theorem HB.Rq (B:HB) {F Z:List Nat} {gr z:Nat} (hz:z∈F):z∈B.blk F Z gr:=by simp only [HB.blk,ρ,τ];exact Β (Β (Β (Α hz)))
theorem HB.Ot (B:HB) {F Z:List Nat} {gr z:Nat} (hz:z∈Z):z∈B.blk F Z gr:=by simp only [HB.blk,ρ,τ];exact Β (Β (Β (Β hz)))
def ReR (B:HB) (F Z:List Nat) (gr cr:Nat) (A:NS) (st:Nat) (ptr:Nat->Option Nat) (G L:Nat->List Nat) (T:List Nat) (g rp gs cap i x:Nat) (w2:World):Prop:=ShM w2 B F Z gr cr A st ptr G L T/\∀Y,aa [] w2 Y->
 Calls Tryz.prog 278 #[.iface 317 (.pointer (some ⟨rp,0,none⟩)),.int .i64 (i:Int)] Y fun e w'=>e=.returned (.iface 3 (.int .i64 (x:Int)))/\ReE Y B F A rp gs cap (L g) T x w'/\
  ∀V,aa [] w' V->Calls Tryz.prog 151 #[.pointer (some ⟨B.c,0,none⟩),.int .i64 (x:Int)] V fun e w''=>e=.returned (.bool true)/\aa F V w''/\∃st',aD w'' B.c F (aN A x) st'
theorem C9 (h:ShAt w B F Z gr A st) (x:Nat) (hin:bV A (x:Int)=true) :
  Calls Tryz.prog 271 #[.pointer (some ⟨B.n0,0,none⟩),.int .i64 (x:Int)] w fun e w'=>e=.returned (.bool true)/\Goes (B.blk F Z gr) w w' (fun F'=>∃Z' st',F'=B.blk F Z' gr/\ShAt w' B F Z' gr (aN A x) st'):=by
 obtain ⟨cr,ptr,G,L,T,hM,hI⟩:=h;have hok:=hM.cells.ok;have hcs:=hok.c1;have hin2:=(aj _ _).1 hin;have hhas:=jH hok hin;rw [π] at hhas;obtain ⟨g,hg⟩:∃g:Nat,(A.c x).i=g:=⟨(A.c x).i.toNat,ω⟩;rw [hg] at hhas;have hgN:=(aQ _ _).1 hhas;have hxm:x∈L g:=(hI.di.mem g x hhas).2 ⟨hin2.1,hg⟩;obtain ⟨i,hi,hxi⟩:=List.mem_iff_getElem.1 hxm;have hx:(L g)[i]?=some x:=by rw [ε hi,hxi]
 have hdom:∀y,y∈L g->bV A (y:Int)=true/\y<T.length:=fun y hy=>⟨(hI.di.len hhas hy).2.1,by rw [hM.tl];exact (hI.di.len hhas hy).1⟩
 have hTx:T.getD x 0=i:=hI.Du g hhas i x hx;have M8:x<T.length:=by rw [hM.tl];exact hin2.1
 obtain ⟨rp,v,hp,Eo,Ho⟩:=hM.pile hhas hdom (hI.di.nd g hhas) (hI.Du g hhas);obtain ⟨gs,cap,hv, -⟩:=Ho.full ω;have AJ:G g=[rp,gs]:=by rw [Eo,hv];rfl
 have kh:∀W,aa [] w W->Calls Tryz.prog 140 #[.pointer (some ⟨B.c,0,none⟩),.int .i64 (x:Int)] W fun e w2=>e=.returned (.tuple #[.int .i64 (g:Int),.bool true])/\aa F W w2/\ReR B F Z gr cr A st ptr G L T g rp gs cap i x w2:=fun W hW=>by
  have k:=jq (hM.ae hW).cells x hin;rw [hg] at k;refine k.mono ?_;rintro e w2 ⟨rfl,hC2,hu2⟩;have hM2:=(hM.ae hW).fH hu2 hC2 (fun x hx=>Α hx) rfl rfl;refine ⟨rfl,hu2,hM2,fun Y hY=>?_⟩;have hPY:=(Ho.ae hW);obtain ⟨rp',v',hp',ZR,hP⟩:=(hM2.ae hY).pile hhas hdom (hI.di.nd g hhas) (hI.Du g hhas);rw [hp] at hp';cases hp';obtain ⟨gs',cap',hv',hPM⟩:=hP.full ω;have eg:gs'=gs:=by
   rw [AJ,hv'] at ZR;have:([rp,gs]:List Nat)=[rp,gs']:=ZR;simp at this;exact this.symm
  subst eg;have hc:cap'=cap:=by
   have r1:=hPM.h1;have hPM0:w.cell? ⟨rp,1,none⟩=some (.slice (some ⟨gs',0,none⟩) (L g).length cap):=by
    rw [←hv];exact Ho.hd.cellAt 1 ω rfl
   have hrpF:rp∉F:=Ho.s3.1;have r2:=((hu2.kept (hW.was hPM0) hrpF));have r3:=hY.was r2;rw [r1] at r3;simpa using r3
  subst hc;refine (Eu hPM i x hx (hI.di.hp g hhas)).mono ?_;rintro e w' ⟨rfl,hR⟩;refine ⟨rfl,hR,fun V hV=>?_⟩;obtain ⟨L',T',hE, -⟩:=hR;obtain ⟨st',hC⟩:=hE.Le;refine (fU (hC.ae hV) x hin).mono ?_;rintro e w'' ⟨rfl,hC',hu'⟩;exact ⟨rfl,hu',st',hC'⟩
 have c0:=hM.h0;have c2:=hM.h1;have c3:=hM.h2;have cg:=hM.kZ.cell ω hp;have ct:=hM.JO x M8;rw [hTx] at ct;have hlt:=hM.lt;have n1:B.n0∉F:=hM.bI.1;have n2:gr∉F:=hM.bI.2.1;have n3:B.ga∉F:=hM.bI.2.2;have n4:B.n0∉[rp,gs,B.ga,B.c]:=by
  have h1:=Ho.s1;have h2:=Ho.sg gs (by rw [hv];rfl);simp;exact ⟨fun e=>h1.2 e.symm,fun e=>h2.2.2.1 e.symm,fun e=>hM.sep.2.1 e.symm,fun e=>n1 (by rw [e];exact hM.cells.mem)⟩
 have VE:(g:Int)<(A.hs.length:Int):=ω;have FX:(x:Int)<(T.length:Int):=ω;have hil:i<=65536:=by have:=Ho.len;omega
 have HX:=χ (ψ hM (ψ hI (ψ hp (ψ hhas (ψ hxm (ψ hlt (ψ AJ hin)))))));clear hM hI hok hcs hin hin2 hhas hgN hxm hxi hx hdom hTx M8 hp Eo Ho hv AJ hlt hi hg;generalize A.hs.length=m at *;generalize T.length=nt at *
 go_enter Tryz.func271,Tryz.ntmps271
 go_upto_region 4 with (first
  | ((go_at_call 140;(with_reducible refine (kh _ β).mono ?_));rintro e w2 ⟨rfl,hu2,hM2,UI⟩)
  | fail)
 have a0:∀X,aa [] w2 X->X.cell? ⟨B.n0,1,none⟩=some (.slice (some ⟨gr,0,none⟩) m cr):=fun X hX=>hX.was (hu2.kept c2 n1);have a1:∀X,aa [] w2 X->X.cell? ⟨B.n0,2,none⟩=some (.slice (some ⟨B.ga,0,none⟩) nt nt):=fun X hX=>hX.was (hu2.kept c3 n1);have a2:∀X,aa [] w2 X->X.cell? ⟨gr,g,none⟩=some (.pointer (some ⟨rp,0,none⟩)):=fun X hX=>hX.was (hu2.kept cg n2);have a3:∀X,aa [] w2 X->X.cell? ⟨B.ga,x,none⟩=some (.int .i64 (i:Int)):=fun X hX=>hX.was (hu2.kept ct n3);have z0:=hu2.kept c0 n1;clear c0 c2 c3 cg ct kh;have b1:=a0 _ (aa.refl [] w2);have b2:=a1 _ (aa.refl [] w2);have b3:=a2 _ (aa.refl [] w2)
 have b4:=a3 _ (aa.refl [] w2)
 go_region_law
  (first
   | (go_simp;go_at_call 278;(with_reducible refine (UI _ ν).mono ?_);rintro e w3 ⟨rfl,hR,ND⟩;(have hv3:aa [rp,gs,B.ga,B.c] w2 w3:=by obtain ⟨_,_,_,_,_,_,_,hu⟩:=hR;exact aa.trans ν hu);(have z1:=hv3.kept z0 n4)))
 all_goals
  go_wp2_with (first
   | ((go_at_call 151;(with_reducible refine (ND _ ν).mono ?_));rintro e w4 ⟨rfl,om,TY,Um⟩)
   | fail)
  go_ret;obtain ⟨hM,hI,hp,hhas,hxm,hlt,AJ,hin⟩:=HX.out;obtain ⟨L',T',hE,hp3,hH3,hoff,Ko, -⟩:=hR;have Ta:aa F w3 w4:=aa.trans ν om;have Vn:∀z,z∈G g->z∈Z:=hM.kZ.zF g hhas
  obtain ⟨st',oP⟩:=hM2.Ez hhas hp hv3 (fun z hz=>by
   simp only [ρ,ς,or_false] at hz;rw [AJ];rcases hz with e|e|e|e
   ·exact Α (by simp [e])
   ·exact Α (by simp [e])
   ·exact Β (Α e)
   ·exact Β (Β e)) (by rw [AJ];simp) hE Ko (fun k hk=>by cases hk;rw [AJ];simp)
  have zG:=oP.fH Ta Um (fun x hx=>Α hx) (fJ _ _) (dm _ _)
  have hI4:=hI.turn (hI.di.drop ω hhas hxm hp3 hH3) (fun q=>by unfold bq;rw [fJ]) hhas hE.Du (fun y _ h2=>hoff y h2) (fun q y e hq hy=>by
   have h2:=hI.di.apart e hq hhas hy
   exact ⟨fun hm=>h2 (hp3.mem_iff.1 (Λ _ hm)),h2⟩)
  refine ⟨rfl,B.blk F (Z++(rp::Option.toList (some gs))) gr,⟨_,TY,rfl,cr,ptr,_,_,T',zG,hI4⟩,((hu2.mono (fun z hz=>B.Rq hz)).trans (hv3.mono (fun z hz=>?_))).trans (Ta.mono (fun z hz=>B.Rq hz)),fun z hz=>Α ?_⟩
  ·simp only [ρ,ς,or_false] at hz;rcases hz with e|e|e|e
   ·exact B.Ot (Vn z (by rw [AJ];simp [e]))
   ·exact B.Ot (Vn z (by rw [AJ];simp [e]))
   ·simp [HB.blk,e]
   ·exact B.Rq (by rw [e];exact hM.cells.mem)
  ·simp only [HB.blk,ρ,τ,Option.toList_some,ς,or_false] at hz;rcases hz with h|h|h|h|h|h|h
   ·simp [HB.blk,h]
   ·simp [HB.blk,h]
   ·simp [HB.blk,h]
   ·exact B.Rq h
   ·exact B.Ot h
   ·exact B.Ot (Vn z (by rw [AJ];simp [h]))
   ·exact B.Ot (Vn z (by rw [AJ];simp [h]))
theorem xL (h:ShAt w B F Z gr A st) (g:Int) (m:Nat) (hm:bB A g=some m) :
  Calls Tryz.prog 272 #[.pointer (some ⟨B.n0,0,none⟩),.int .i64 g] w fun e w'=>e=.returned (.tuple #[.int .i64 (m:Int),.bool true])/\Goes (B.blk F Z gr) w w' (fun F'=>∃Z' st',F'=B.blk F Z' gr/\ShAt w' B F Z' gr (aN A m) st'):=by
 obtain ⟨q,rfl,hq,hin⟩:∃q:Nat,g=q/\bq A q=true/\bV A (m:Int)=true:=by
  obtain ⟨cr,ptr,G,L,T,hM,hI⟩:=h;obtain ⟨q,rfl,hq,hmq⟩:=hI.di.TN hm hM.cells.ok;exact ⟨q,rfl,hq,(hI.di.len hq hmq).2.1⟩
 have km:=Bb h q hq;rw [hm] at km;have kd:=fun W (hW:aa [] w W)=>C9 (h.ae hW) m hin;clear h hm hin hq;have km':Calls Tryz.prog 276 #[.pointer (some ⟨B.n0,0,none⟩),.int .i64 (q:Int)] w fun e w'=>e=.returned (.tuple #[.int .i64 (m:Int),.bool true])/\w'=w:=km;clear km
 go_enter Tryz.func272,Tryz.ntmps272
 go_wp2_with (first
  | (go_at_call 276;(with_reducible refine (km').mono ?_);rintro e w9 ⟨rfl,aS⟩;rw [aS];clear aS w9)
  | ((go_at_call 271;(with_reducible refine (kd _ (aa.refl _ _)).mono ?_));rintro e w2 ⟨rfl,hG⟩)
  | fail)
 go_ret2;exact ⟨rfl,hG⟩
end
end Go.Proofs.YtklibcncmbofpaaGreat
namespace Go.Proofs.YtklibcncmbofpaaGreat
open Go.RowKit
def arity (k d:Int):Int:=if k=1 then 2 else d
theorem K6 (k d:Int) (hc:xY k d=0) (w:World) :
  Calls Tryz.prog 92 #[.agg #[.int .i64 k,.int .i64 d]] w fun e w'=>e=.returned (.int .i64 (arity k d))/\aa [] w w':=by
 have kc:=fun W=>wo k d W;rw [hc] at kc;unfold arity;clear hc
 by_cases h1:k=1
 ·rw [Δ h1];subst h1
  go_enter Tryz.func92,Tryz.ntmps92
  go_wp2_with (first|((go_at_call 50;(with_reducible refine (kc _).mono ?_));rintro e w1 ⟨rfl,hb⟩;obtain ⟨hc,hf⟩:=Ug hb)|fail)
  go_ret;exact ⟨rfl,((aa.refl _ _).alloc _).trans (hb.mono σ)⟩
 ·rw [Γ h1];have h2:(k == 1)=false:=by simpa using h1
  go_enter Tryz.func92,Tryz.ntmps92
  go_wp2_with (first|((go_at_call 50;(with_reducible refine (kc _).mono ?_));rintro e w1 ⟨rfl,hb⟩;obtain ⟨hc,hf⟩:=Ug hb)|fail)
  go_ret;exact ⟨rfl,((aa.refl _ _).alloc _).trans (hb.mono σ)⟩
end Go.Proofs.YtklibcncmbofpaaGreat
namespace Go.Proofs.YtklibcncmbofpaaGreat
open Go Go.RowKit
theorem II (p c:Nat):∀W:World,W.cell? ⟨p,0,none⟩=some (.pointer (some ⟨c,0,none⟩))->(method 429 170 (.pointer (some ⟨p,0,none⟩)) "Has").run Tryz.prog W=.ok (139,.pointer (some ⟨c,0,none⟩)) W:=(by intro W h;unfold method;have hm:∃m,(Array.find? (fun x=>x.name == "Has") Tryz.t170.methods)=some m/\m.path.toList=[⟨207,0,true⟩]/\m.func=some (139,true)/\m.path.isEmpty=false:=⟨(Array.find? (fun x=>x.name == "Has") Tryz.t170.methods).get!,by kernel_rfl,by kernel_rfl,by kernel_rfl,by kernel_rfl⟩;obtain ⟨m,h1,h2,h3,h4⟩:=hm;go_simp;simp only [follow,Place.get];go_simp;(try unfold receiverAt);(try simp only [Place.get]);(try go_simp))
theorem CB (p c:Nat):∀W:World,W.cell? ⟨p,0,none⟩=some (.pointer (some ⟨c,0,none⟩))->(method 429 170 (.pointer (some ⟨p,0,none⟩)) "Entry").run Tryz.prog W=.ok (137,.pointer (some ⟨c,0,none⟩)) W:=(by intro W h;unfold method;have hm:∃m,(Array.find? (fun x=>x.name == "Entry") Tryz.t170.methods)=some m/\m.path.toList=[⟨207,0,true⟩]/\m.func=some (137,true)/\m.path.isEmpty=false:=⟨(Array.find? (fun x=>x.name == "Entry") Tryz.t170.methods).get!,by kernel_rfl,by kernel_rfl,by kernel_rfl,by kernel_rfl⟩;obtain ⟨m,h1,h2,h3,h4⟩:=hm;go_simp;simp only [follow,Place.get];go_simp;(try unfold receiverAt);(try simp only [Place.get]);(try go_simp))
theorem Sw (p:Nat):∀W:World,(method 429 170 (.pointer (some ⟨p,0,none⟩)) "Make").run Tryz.prog W=.ok (143,.pointer (some ⟨p,0,none⟩)) W:=fun _=>by kernel_rfl
theorem L8 (p:Nat):∀W:World,(method 429 170 (.pointer (some ⟨p,0,none⟩)) "Insert").run Tryz.prog W=.ok (141,.pointer (some ⟨p,0,none⟩)) W:=fun _=>by kernel_rfl
theorem UY (p:Nat):∀W:World,(method 429 170 (.pointer (some ⟨p,0,none⟩)) "Min").run Tryz.prog W=.ok (145,.pointer (some ⟨p,0,none⟩)) W:=fun _=>by kernel_rfl
theorem Gh (p:Nat):∀W:World,(method 429 170 (.pointer (some ⟨p,0,none⟩)) "Extract").run Tryz.prog W=.ok (138,.pointer (some ⟨p,0,none⟩)) W:=fun _=>by kernel_rfl
def WX (d:Nat) (w:World) (p:Nat) (F:List Nat) (A:NS):Prop:=∃B F1 Z gr st,p=B.n0/\F=B.blk F1 Z gr/\B.d=d/\nA w B F1 Z gr A st
theorem WX.of {d:Nat} {B:DB} {F1:List Nat} {gr:Nat} {A:NS} {F:List Nat} {w w':World} (hd:B.d=d) (h:Goes F w w' (fun F'=>∃Z' st',F'=B.blk F1 Z' gr/\nA w' B F1 Z' gr A st')):Goes F w w' (fun F'=>WX d w' B.n0 F' A):=by
 obtain ⟨F',⟨Z',st',rfl,hA⟩,hu,hf⟩:=h;exact ⟨_,⟨B,F1,Z',gr,st',rfl,rfl,hd,hA⟩,hu,hf⟩
def xh (d:Nat):dV where
 ty:=170
 at_:=WX d
 upd:=fun h hu hS=>by
  obtain ⟨B,F1,Z,gr,st,rfl,rfl,hd,hL⟩:=h;exact ⟨B,F1,Z,gr,st,rfl,rfl,hd,hL.upd hu hS⟩
 lt:=fun h=>by
  obtain ⟨B,F1,Z,gr,st,rfl,rfl,hd,cr,ptr,G,L,hM,hI⟩:=h;exact hM.lt
 ok:=fun h=>by
  obtain ⟨B,F1,Z,gr,st,rfl,rfl,hd,cr,ptr,G,L,hM,hI⟩:=h;exact hM.cells.ok
 make:=fun {w p F A} h=>by
  obtain ⟨B,F1,Z,gr,st,rfl,rfl,hd,hL⟩:=h;refine aX 143 (fun _ _=>by kernel_rfl) (Sw _) (fun W hW=>?_);have pg:=hL.ae hW
  by_cases hl:65536<A.hs.length
  ·have e1:bS A=0:=by unfold bS;rw [Δ hl]
   have e2:aC A=A:=by unfold aC;rw [Δ hl]
   rw [e1,e2];refine (Nz pg hl).mono ?_;rintro e w' ⟨rfl,F',⟨F2,rfl,hA⟩,hu,hf⟩;exact ⟨rfl,_,⟨B,F2,Z,gr,st,rfl,rfl,hd,hA⟩,hu,hf⟩
  ·have e1:bS A=A.hs.length:=by unfold bS;rw [Γ hl]
   rw [e1];refine (Lu pg hl).mono ?_;rintro e w' ⟨rfl,F',⟨F2,Z2,gr2,rfl,hA⟩,hu,hf⟩;exact ⟨rfl,_,⟨B,F2,Z2,gr2,st,rfl,rfl,hd,hA⟩,hu,hf⟩
 insert:=fun {w p F A} g y k s hk hB h=>by
  obtain ⟨B,F1,Z,gr,st,rfl,rfl,hd,hL⟩:=h;refine aX 141 (fun _ _=>by kernel_rfl) (L8 _) (fun W hW=>?_);exact (EI (hL.ae hW) g y k s hk hB).mono (fun e w' h=>⟨h.1,WX.of hd h.2⟩)
 min:=fun {w p F A} g hB h=>by
  obtain ⟨B,F1,Z,gr,st,rfl,rfl,hd,hL⟩:=h;refine aX 145 (fun _ _=>by kernel_rfl) (UY _) (fun W hW=>?_);refine (EA (hL.ae hW) g hB).mono ?_;rintro e w' ⟨rfl,rfl⟩;exact ⟨rfl,Goes.stay ⟨B,F1,Z,gr,st,rfl,rfl,hd,hL.ae hW⟩ (aa.refl _ _)⟩
 extract:=fun {w p F A} g m hm h=>by
  obtain ⟨B,F1,Z,gr,st,rfl,rfl,hd,hL⟩:=h;refine aX 138 (fun _ _=>by kernel_rfl) (Gh _) (fun W hW=>?_);exact (Ac (hL.ae hW) g m hm).mono (fun e w' h=>⟨h.1,WX.of hd h.2⟩)
 has:=fun x h=>by
  obtain ⟨B,F1,Z,gr,st,rfl,rfl,hd,cr,ptr,G,L,hM,hI⟩:=h;exact gN 139 (fun _ _=>by kernel_rfl) hM.h0 (II _ _) (fun W hW=>iw (hM.ae hW).cells x)
 entry:=fun {w p F A} x h=>by
  obtain ⟨B,F1,Z,gr,st,rfl,rfl,hd,cr,ptr,G,L,hM,hI⟩:=h;refine gN 137 (fun _ _=>by kernel_rfl) hM.h0 (CB _ _) (fun W hW=>?_);cases hin:bV A x with
  | false=>simpa using jR (hM.ae hW).cells x hin
  | true=>
   obtain ⟨y,rfl⟩:=oZ hin;simpa using iY (hM.ae hW).cells y hin
theorem GI (p:Nat) (w:World):Calls Tryz.prog 90 #[.pointer (some ⟨p,0,none⟩),.int .i64 0] w fun e w'=>e=.returned (.tuple #[.iface 170 (.pointer (some ⟨p,0,none⟩)),.int .i64 0])/\w'=w:=by
 go_enter Tryz.func90,Tryz.ntmps90
 go_wp2;go_ret2;exact ⟨rfl,rfl⟩
theorem NU (kd d:Int) (n m:Nat) (hc:xY kd d=0) (hk:kd=1\/kd=2) (hm:arity kd d=(m:Int)) (hn:n<=65536):lG (xh m) kd d n:=by
 intro w;have hd:2<=m/\m<=16:=by
  have h1:=Hu hc;unfold arity at hm;rcases hk with e|e
  ·rw [Δ e] at hm;omega
  ·rw [Γ ω] at hm;have:=h1.2.2.1 e;omega
 have kn:=fun W=>Ob n m W hn hd;have km:=GI;have ka:=fun W=>K6 kd d hc W;rw [hm] at ka;have hty:(xh m).ty=170:=rfl;have hat:∀w' B F Z gr,B.d=m->nA w' B F Z gr (NS.new n) 0->(xh m).at_ w' B.n0 (B.blk F Z gr) (NS.new n):=fun w' B F Z gr hd h=>⟨B,F,Z,gr,0,rfl,rfl,hd,h⟩
 generalize xh m=K at *;rw [hty];clear hm hc;rcases hk with rfl|rfl
 all_goals
  go_enter Tryz.func81,Tryz.ntmps81
  go_wp2_with (first
   | ((go_at_call 92;(with_reducible refine (ka _).mono ?_));rintro e w0 ⟨rfl,hu0⟩)
   | ((go_at_call 91;(with_reducible refine (kn _).mono ?_));rintro e w1 ⟨B,F,gr,rfl,hS,hu1,hf,hBd⟩)
   | ((go_at_call 90;(with_reducible refine (km _ _).mono ?_));rintro e w2 ⟨rfl,rfl⟩)
   | fail)
  go_ret2;have hs:=hu0.size;exact ⟨B.n0,B.blk F [] gr,rfl,hat _ _ _ _ _ hBd hS,aa.trans (aa.trans β hu0) hu1,fun x hx=>by have:=hf x hx;simp at hs;omega⟩
end Go.Proofs.YtklibcncmbofpaaGreat
