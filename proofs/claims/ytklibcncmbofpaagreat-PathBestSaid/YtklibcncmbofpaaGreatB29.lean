/-
  Lemmas for PathBest: Fb9, FbN. Conditions: those of each lemma.
-/
import Derived.Test.YtklibcncmbofpaaGreatB06
import Derived.Test.YtklibcncmbofpaaGreatB28
set_option linter.all false
set_option maxHeartbeats 8000000
set_option maxRecDepth 10000
namespace Go.Proofs.YtklibcncmbofpaaGreat
open Go Go.RowKit
theorem Ob:(Tryz.prog.info? 225).map (fun i=>(i.zero,i.size,i.bytes))=some (some (.agg #[.int .i64 0,.int .i64 0,.int .i64 0,.bool false]),4,32):=by kernel_rfl
theorem JG (n j:Nat) (hj:j<n*4):(madeCells #[Value.int .i64 0,.int .i64 0,.int .i64 0,.bool false] (n*4)).toList.getD j undef=BK (fun _=>0) (fun _=>0) (fun _=>0) (fun _=>false) j:=by
 rw [φ,ε (by simp [size_madeCells];omega)];simp only [Option.getD_some,madeCells,Array.getElem_toList,Array.getElem_map,Array.getElem_range];unfold BK;rcases (ω:j % 4=0\/j % 4=1\/j % 4=2\/j % 4=3) with e|e|e|e<;>simp [e]
def upTo (k:Nat) (v:Int):Nat->Int:=fun i=>if i<k then v else 0
theorem PQ (k:Nat) (v:Int):az (upTo k v) k v=upTo (k+1) v:=by
 funext i;unfold az upTo
 by_cases e:i=k
 ·rw [if_pos e,if_pos ω]
 ·rw [if_neg e]
  by_cases h:i<k
  ·rw [if_pos h,if_pos ω]
  ·rw [if_neg h,if_neg ω]
theorem Ta (n:Nat) (w:World) (h:n<=65536):Calls Tryz.prog 98 #[.int .i64 (n:Int)] w fun e w'=>∃p FF,e=.returned (.tuple #[.pointer (some ⟨p,0,none⟩),.int .i64 0])/\xn w' p FF (NS.new n) 0 FG.none/\aa [] w w'/\∀x,x∈FF->w.heap.size<=x:=by
 have kc:=oh n w h;have kr:=fun W=>GN n W h;have hI:=χ (Yh n)
 go_enter Tryz.func98,Tryz.ntmps98
 go_wp2_with (first
  | ((go_at_call 107;(with_reducible refine (kc).mono ?_));rintro e w1 ⟨c,F,rfl,hC,hu1,hF⟩;(have HC:=χ (ψ hC (ψ hu1 hF)));clear hC hu1 hF)
  | ((go_at_call 110;(with_reducible refine (kr _).mono ?_));rintro e w2 ⟨br,bn,bp,rfl,hR,hu2,hb1,hb2,hb3⟩;(have HR:=χ (ψ hR (ψ hu2 (ψ hb1 (ψ hb2 hb3)))));clear hR hu2 hb1 hb2 hb3 kr)
  | (at_make;refine wpList_make_row rfl _ 221 rfl 225 (.agg #[.int .i64 0,.int .i64 0,.int .i64 0,.bool false]) 4 32 Tryz.underlying221 Ob n rfl ω μ ?_;intro w3 hr3 hu3))
 obtain ⟨W0,hW0⟩:∃W0,W0=(w3.alloc (.cells #[.int .i64 (-1)] 3)).alloc (.cells #[.pointer (some ⟨c,0,none⟩),.pointer (some ⟨br,0,none⟩),.slice (some ⟨w2.heap.size,0,none⟩) n n,.slice (some ⟨w3.heap.size,0,none⟩) 1 1] 223):=⟨_,rfl⟩;have hu0:aa [] w3 W0:=by rw [hW0];exact β
 have hhead:=eH (w3.alloc (.cells #[.int .i64 (-1)] 3)) [.pointer (some ⟨c,0,none⟩),.pointer (some ⟨br,0,none⟩),.slice (some ⟨w2.heap.size,0,none⟩) n n,.slice (some ⟨w3.heap.size,0,none⟩) 1 1] 223;rw [World.size_alloc] at hhead;have hz1:IZ (w3.alloc (.cells #[.int .i64 (-1)] 3)) w3.heap.size 1 [-1]:=IZ.lit w3 [-1] σ;have hz0:IZ W0 w3.heap.size 1 [-1]:=by rw [hW0];exact hz1.upd ((aa.refl [] _).alloc _) σ
 have hhd:aO W0 (w3.heap.size+1) 223 4 (fun j=>[Value.pointer (some ⟨c,0,none⟩),.pointer (some ⟨br,0,none⟩),.slice (some ⟨w2.heap.size,0,none⟩) n n,.slice (some ⟨w3.heap.size,0,none⟩) 1 1].getD j undef):=by rw [hW0];exact hhead
 have hzz:(Value.agg #[.int .i64 0,.int .i64 0,.int .i64 0,.bool false]).cells=#[.int .i64 0,.int .i64 0,.int .i64 0,.bool false]:=rfl;rw [hzz] at hr3;have hr0:aO W0 w2.heap.size 225 (n*4) (BK (upTo 0 (-1)) (upTo 0 (-1)) (fun _=>0) (fun _=>false)):=by
  refine ((hr3.upd hu0 σ).ext (fun j hj=>?_));rw [JG n j hj];unfold upTo;simp
 have hl3:=hr3.lt;have hs3:=hu3.size;have H0:=χ (ψ hu0 (ψ hz0 (ψ hhd (ψ hr0 (ψ hu3 hW0)))));have hne:w3.heap.size+1≠w2.heap.size:=ω;clear hu0 hz0 hhd hr0 hz1 hhead hr3 hu3;rw [←hW0];clear hW0
 go_loopw [34] (fun s34 wr=>∃k:Nat,k<=n/\s34=.int .i64 (k:Int)/\aO wr w2.heap.size 225 (n*4) (BK (upTo k (-1)) (upTo k (-1)) (fun _=>0) (fun _=>false))/\aa [w2.heap.size] W0 wr) (fun s34 _=>n-(intOf s34).toNat)
 case atStart=>exact ⟨0,ω,rfl,H0.out.2.2.2.1,aa.refl _ _⟩
 case round=>
  obtain ⟨k,hk,rfl,hr,hu⟩:=hrel;rename World=>wr
  by_cases hkn:k<n
  ·have Zn:(k:Int)<(n:Int):=ω;have hw1:IntKind.i64.wrap ((k:Int)+1)=(k:Int)+1:=IntWalk.i64_in _ ω;have d2:wr.cell? ⟨w3.heap.size+1,2,none⟩=some (.slice (some ⟨w2.heap.size,0,none⟩) n n):=hu.kept (H0.out.2.2.1.cellAt 2 ω rfl) (by simpa using hne);have p0:=hr.cellAt (k*4) ω (yD _ _ _ _ k);have p1:=hr.cellAt (k*4+1) ω (yE _ _ _ _ k);have p2:=hr.cellAt (k*4+2) ω (yC _ _ _ _ k);have p3:=hr.cellAt (k*4+3) ω (yA _ _ _ _ k);have f0:=hr.free (k*4);have f1:=hr.free (k*4+1);have f2:=hr.free (k*4+2);have f3:=hr.free (k*4+3);have hlr:=hr.lt;have HR2:=χ (ψ hr hu);clear hr hu;go_wp2
   go_region_with (first
    | ((go_at_call 111;(with_reducible refine (AU _).mono ?_));rintro e w5 ⟨rfl,cu⟩;(have hv:aa [] wr w5:=aa.trans β cu);(have v0:=hv.was p0);(have v1:=hv.was p1);(have v2:=hv.was p2);(have v3:=hv.was p3);(have v4:=hv.was d2);(have z0:=hv.aR p0 σ f0);(have z1:=hv.aR p1 σ f1);(have z2:=hv.aR p2 σ f2);(have z3:=hv.aR p3 σ f3))
    | fail)
   all_goals
    go_wp2;have hr:=HR2.out.1.upd hv σ;have iB:aa [w2.heap.size] W0 w5:=HR2.out.2.then hv;refine ⟨⟨k+1,ω,by go_num,?_,ν⟩,by simp [intOf];omega⟩;have:=pX (sS (qx (rT hr k (-1)) k (-1)) k 0) k false;rw [PQ] at this;refine this.ext (fun j _=>?_);rw [show az (fun _=>(0:Int)) k 0=(fun _=>0) from by funext z;unfold az;split<;>rfl,show az (fun _=>false) k false=(fun _=>false) from by funext z;unfold az;split<;>rfl]
  ·obtain rfl:k=n:=ω;have HR2:=χ (ψ hr hu);clear hr hu;go_wp2;go_ret2;obtain ⟨hr,hu⟩:=HR2.out;obtain ⟨hu0,hz0,hhd,_,hu3,_⟩:=H0.out;obtain ⟨hC,hu1,hF⟩:=HC.out;obtain ⟨hR,hu2,hb1,hb2,hb3⟩:=HR.out;have hcs:(NS.new k).cs.length=k:=by simp [NS.new]
   have lX:(NS.new k).hs.length=1:=rfl;have hCl:=hC.lt;have hRl:=hR.lt;have s1:=hu1.size;have s2:=hu2.size;have s3:=hu3.size;have s0:=hu0.size;have hFn:∀y,w1.heap.size<=y->y∉F:=fun y hy hm=>by have:=hCl y hm;omega
   have hM:fI wr ⟨w3.heap.size+1,c,br,bn,bp,w2.heap.size⟩ F w3.heap.size 1 (NS.new k) 0 FG.none:=by
    refine ⟨?_,?_,?_,?_,?_,⟨hFn _ ζ,hFn _ hb1,hFn _ hb2,hFn _ hb3,hFn _ s2,hFn _ ω⟩,⟨ζ,ζ,ζ,ζ,σ⟩,⟨ζ,ζ,ζ,ζ,ζ,ζ,ζ⟩⟩
    ·rw [hcs,lX];exact hhd.upd hu (by simpa using hne)
    ·exact ((hC.aA ((hu2.trans hu3).trans hu0))).upd hu (fun y hy=>by simp at hy;rw [hy];exact hFn _ s2)
    ·rw [hcs];exact (hR.aA (hu3.trans hu0)).upd hu ζ ζ ζ
    ·rw [hcs];refine hr.ext (fun j hj=>?_);unfold oo;obtain ⟨a,e⟩:=four j;have ha:a<k:=ω;rcases e with rfl|rfl|rfl|rfl
     ·rw [yD,yD];unfold upTo;rw [if_pos ha];rfl
     ·rw [yE,yE];unfold upTo;rw [if_pos ha];rfl
     ·rw [yC,yC];rfl
     ·rw [yA,yA];rfl
    ·exact hz0.upd hu ζ
   refine ⟨_,_,rfl,⟨⟨⟨w3.heap.size+1,c,br,bn,bp,w2.heap.size⟩,F,w3.heap.size,1,rfl,rfl,hM⟩,hI.out⟩,(((hu1.trans hu2).trans hu3).trans hu0).joined hu (fun y hy=>by simp at hy;rw [hy];right;omega),fun y hy=>?_⟩;simp only [FB.blk,ρ] at hy;rcases hy with e|e|e|e|e|e|e
   ·omega
   ·omega
   ·omega
   ·omega
   ·omega
   ·omega
   ·exact hF y e
theorem Gu (p c:Nat):∀W:World,W.cell? ⟨p,0,none⟩=some (.pointer (some ⟨c,0,none⟩))->(method 429 182 (.pointer (some ⟨p,0,none⟩)) "Has").run Tryz.prog W=.ok (139,.pointer (some ⟨c,0,none⟩)) W:=(by intro W h;unfold method;have hm:∃m,(Array.find? (fun x=>x.name == "Has") Tryz.t182.methods)=some m/\m.path.toList=[⟨223,0,true⟩]/\m.func=some (139,true)/\m.path.isEmpty=false:=⟨(Array.find? (fun x=>x.name == "Has") Tryz.t182.methods).get!,by kernel_rfl,by kernel_rfl,by kernel_rfl,by kernel_rfl⟩;obtain ⟨m,h1,h2,h3,h4⟩:=hm;go_simp;simp only [follow,Place.get];go_simp;(try unfold receiverAt);(try simp only [Place.get]);(try go_simp))
theorem Bp (p c:Nat):∀W:World,W.cell? ⟨p,0,none⟩=some (.pointer (some ⟨c,0,none⟩))->(method 429 182 (.pointer (some ⟨p,0,none⟩)) "Entry").run Tryz.prog W=.ok (137,.pointer (some ⟨c,0,none⟩)) W:=(by intro W h;unfold method;have hm:∃m,(Array.find? (fun x=>x.name == "Entry") Tryz.t182.methods)=some m/\m.path.toList=[⟨223,0,true⟩]/\m.func=some (137,true)/\m.path.isEmpty=false:=⟨(Array.find? (fun x=>x.name == "Entry") Tryz.t182.methods).get!,by kernel_rfl,by kernel_rfl,by kernel_rfl,by kernel_rfl⟩;obtain ⟨m,h1,h2,h3,h4⟩:=hm;go_simp;simp only [follow,Place.get];go_simp;(try unfold receiverAt);(try simp only [Place.get]);(try go_simp))
theorem Qj (p:Nat):∀W:World,(method 429 182 (.pointer (some ⟨p,0,none⟩)) "Make").run Tryz.prog W=.ok (222,.pointer (some ⟨p,0,none⟩)) W:=fun _=>by kernel_rfl
theorem Kb (p:Nat):∀W:World,(method 429 182 (.pointer (some ⟨p,0,none⟩)) "Insert").run Tryz.prog W=.ok (221,.pointer (some ⟨p,0,none⟩)) W:=fun _=>by kernel_rfl
theorem VD (p:Nat):∀W:World,(method 429 182 (.pointer (some ⟨p,0,none⟩)) "Min").run Tryz.prog W=.ok (224,.pointer (some ⟨p,0,none⟩)) W:=fun _=>by kernel_rfl
theorem Gb (p:Nat):∀W:World,(method 429 182 (.pointer (some ⟨p,0,none⟩)) "Extract").run Tryz.prog W=.ok (220,.pointer (some ⟨p,0,none⟩)) W:=fun _=>by kernel_rfl
theorem EP (p:Nat):∀W:World,(method 429 182 (.pointer (some ⟨p,0,none⟩)) "Decrease").run Tryz.prog W=.ok (218,.pointer (some ⟨p,0,none⟩)) W:=fun _=>by kernel_rfl
theorem xG {w w':World} {p:Nat} {F S:List Nat} {A:NS} {st:Nat} {G:FG} (h:xn w p F A st G) (hu:aa S w w') (hS:∀x,x∈S->x∉F):xn w' p F A st G:=h.upd hu hS
theorem abd {w:World} {p:Nat} {F:List Nat} {A:NS} {st:Nat} {G:FG} (h:xn w p F A st G):∀x,x∈F->x<w.heap.size:=h.lt
theorem Ry {w:World} {p:Nat} {F:List Nat} {A:NS} {st:Nat} {G:FG} (h:xn w p F A st G):A.Ok:=h.ok
theorem Xm {w:World} {p:Nat} {F:List Nat} {A:NS} {st:Nat} {G:FG} (h:xn w p F A st G):∃c F1,w.cell? ⟨p,0,none⟩=some (.pointer (some ⟨c,0,none⟩))/\aG w c F1 A st:=by
 obtain ⟨c,F1,h0,hC, -⟩:=h.cl;exact ⟨c,F1,h0,hC⟩
def FbQ (w:World) (p:Nat) (F:List Nat) (A:NS):Prop:=∃st G,xn w p F A st G
noncomputable def yI:gV where
 ty:=182
 at_:=FbQ
 upd:=fun h hu hS=>by
  obtain ⟨st,G,hL⟩:=h;exact ⟨st,G,xG hL hu hS⟩
 lt:=fun h=>by
  obtain ⟨st,G,hL⟩:=h;exact abd hL
 ok:=fun h=>by
  obtain ⟨st,G,hL⟩:=h;exact Ry hL
 make:=fun {w p F A} h=>by
  obtain ⟨st,G,hL⟩:=h;refine aZ 222 (fun _ _=>by kernel_rfl) (Qj _) (fun W hW=>?_);refine (M0 (xG hL hW σ)).mono ?_;rintro e w' ⟨rfl,F',hA,hu,hf⟩;exact ⟨rfl,F',⟨_,_,hA⟩,hu,hf⟩
 insert:=fun {w p F A} g y k s hk hB h=>by
  obtain ⟨st,G,hL⟩:=h;refine aZ 221 (fun _ _=>by kernel_rfl) (Kb _) (fun W hW=>?_);refine (Hq (xG hL hW σ) g y k s hk hB).mono ?_;rintro e w' ⟨rfl,F',hA,hu,hf⟩;exact ⟨rfl,F',⟨_,_,hA⟩,hu,hf⟩
 min:=fun {w p F A} y hB h=>by
  obtain ⟨st,G,hL⟩:=h;refine aZ 224 (fun _ _=>by kernel_rfl) (VD _) (fun W hW=>?_);have mF:=xG hL hW σ;have hok:=Ry hL;have h4:=(aT _ _).1 hB;have h5:=hok.h1;refine (Gz mF (y:Int) ω).mono ?_;rintro e w' ⟨rfl,rfl⟩;exact ⟨rfl,Goes.stay ⟨_,_,mF⟩ (aa.refl _ _)⟩
 extract:=fun {w p F A} y m hm h=>by
  obtain ⟨st,G,hL⟩:=h;refine aZ 220 (fun _ _=>by kernel_rfl) (Gb _) (fun W hW=>?_);have mF:=xG hL hW σ;have e2:uL A (y:Int)=bz A (m:Int):=by unfold uL;rw [hm]
  have hok:=Ry hL;obtain ⟨m1,m2,m3,m4⟩:=lM hm;have hB:bK A (y:Int)=true:=by rw [←m3];have:=jf hok m4;simpa using this
  have h4:=(aT _ _).1 hB;have h5:=hok.h1;have k:=Dp mF (y:Int) ω;rw [e2,hm] at k;refine k.mono ?_;rintro e w' ⟨rfl,F',hA,hu,hf⟩;exact ⟨rfl,F',⟨_,_,hA⟩,hu,hf⟩
 mV:=fun {w p F A} y k s hk hB h=>by
  obtain ⟨st,G,hL⟩:=h;refine aZ 218 (fun _ _=>by kernel_rfl) (EP _) (fun W hW=>?_);have mF:=xG hL hW σ;have hin:=qE hB;have hi:=(ai _ _).1 hin;obtain ⟨hh,hxh⟩:∃hh:Nat,(A.c y).i=hh:=⟨(A.c y).i.toNat,ω⟩;refine (Sg mF y k s hk hB hxh).mono ?_;rintro e w' ⟨rfl,F',hA,hu,hf⟩;exact ⟨rfl,F',⟨_,_,hA⟩,hu,hf⟩
 has:=fun x h=>by
  obtain ⟨st,G,hL⟩:=h;obtain ⟨c,F1,h0,hC⟩:=Xm hL;exact iT 139 (fun _ _=>by kernel_rfl) h0 (Gu _ _) (fun W hW=>jN (hC.aA hW) x)
 entry:=fun {w p F A} x h=>by
  obtain ⟨st,G,hL⟩:=h;obtain ⟨c,F1,h0,hC⟩:=Xm hL;refine iT 137 (fun _ _=>by kernel_rfl) h0 (Bp _ _) (fun W hW=>?_);cases hin:bX A x with
  | false=>simpa using mi (hC.aA hW) x hin
  | true=>
   obtain ⟨y,rfl⟩:=qD hin;simpa using kN (hC.aA hW) y hin
theorem Jg (p:Nat) (w:World):Calls Tryz.prog 97 #[.pointer (some ⟨p,0,none⟩),.int .i64 0] w fun e w'=>e=.returned (.tuple #[.iface 182 (.pointer (some ⟨p,0,none⟩)),.int .i64 0])/\w'=w:=by
 go_enter Tryz.func97,Tryz.ntmps97
 go_wp2;go_ret2;exact ⟨rfl,rfl⟩
theorem PN (n:Nat) (hn:n<=65536):oW yI 5 0 n:=by
 intro w;have kn:=fun W=>Ta n W hn;have km:=Jg;have hty:yI.ty=182:=rfl;have hat:∀w' p FF,xn w' p FF (NS.new n) 0 FG.none->yI.at_ w' p FF (NS.new n):=fun w' p FF h=>⟨_,_,h⟩
 generalize yI=K at *;rw [hty]
 go_enter Tryz.func81,Tryz.ntmps81
 go_wp2_with (first
  | ((go_at_call 98;(with_reducible refine (kn _).mono ?_));rintro e w1 ⟨pn,FF,rfl,hS,hu1,hf⟩)
  | ((go_at_call 97;(with_reducible refine (km _ _).mono ?_));rintro e w2 ⟨rfl,rfl⟩)
  | fail)
 go_ret2;exact ⟨pn,FF,rfl,hat _ _ _ hS,aa.trans β hu1,fun x hx=>by have:=hf x hx;simp at this;omega⟩
end Go.Proofs.YtklibcncmbofpaaGreat
