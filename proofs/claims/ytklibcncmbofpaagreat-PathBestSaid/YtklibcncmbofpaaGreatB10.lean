/-
  Lemmas for PathBest: Sf4, Sf5, Sf6, Dr, Sd7. Conditions: those of each lemma.
-/
import Derived.Deep.OwnRows
import Derived.Test.YtklibcncmbofpaaGreatB09
set_option linter.all false
set_option maxHeartbeats 8000000
set_option maxRecDepth 10000
namespace Go.Proofs.YtklibcncmbofpaaGreat
open Go Go.RowKit
theorem N8 (O:ik) {w:World} {rp mb g cap d:Nat} {f:Int->Option Int} {L:List Nat} (hO:O.at_ w) (h:uV w rp mb g cap d f L) (hd:2<=d/\d<=16) (hl:L.length<=65536) (i x:Nat) (hH:fH O.R d L i) (hP:mZ f L i x)
  (hn:(L.set i x).Nodup) (hdom:∀y,y∈L.set i x->O.dom y) (h16:∀y,y∈L.set i x->y<=65536) (hsep:Ot O rp mb g) (hT:i=0\/O.R (L.getD (par d i) 0) x) :
  Calls Tryz.prog 161 #[.pointer (some ⟨rp,0,none⟩),.iface O.ty (.pointer (some ⟨O.p,0,none⟩)),.int .i64 (i:Int),.int .i64 (x:Int)] w fun e w'=>∃ (f':Int->Option Int) (L':List Nat),e=.returned (.tuple #[])/\uV w' rp mb g cap d f' L'/\vI f' L'/\L'.Perm (L.set i x)/\O.at_ w'/\aa (g::mb::O.wr) w w'/\Hp O.R d L':=by
 have hi0:=hH.lt;have hxm:x∈L.set i x:=List.mem_of_getElem? (show (L.set i x)[i]?=some x by simp [hi0]);have hdx:=hdom x hxm;have hxl:=h16 x hxm;have HX:=χ (ψ hn (ψ hdom (ψ h16 (ψ hsep hd))));have hwr:=hsep.wr
 go_enter Tryz.func161,Tryz.ntmps161
 go_wp2
 go_loopw [2,8,9] (fun iv _ _ wr=>∃ (i':Nat) (f':Int->Option Int) (L':List Nat),iv=.int .i64 (i':Int)/\uV wr rp mb g cap d f' L'/\fH O.R d L' i'/\mZ f' L' i' x/\L'.length=L.length/\(L'.set i' x).Perm (L.set i x)/\O.at_ wr/\aa (g::mb::O.wr) w wr/\(i'=0\/O.R (L'.getD (par d i') 0) x)) (fun iv _ _ _=>L.length-(intOf iv).toNat)
 case atStart=>exact ⟨i,f,L,rfl,h,hH,hP,rfl,List.Perm.refl _,hO,aa.refl _ _,hT⟩
 case round=>
  clear h hH hP hO hT;obtain ⟨i1,f1,L1,rfl,h,hH,hP,hl1,hpm,hO,hu,hT⟩:=hrel;rename World=>wr;have hi1:=hH.lt;have hn1:(L1.set i1 x).Nodup:=hpm.nodup_iff.2 HX.out.1;have kf:=JS O hO h hd ω i1 x hi1 hn1 (fun y hy=>HX.out.2.1 y (hpm.mem_iff.1 hy)) HX.out.2.2.2.1;have ks:=fun W (hW:aa O.wr wr W)=>sM (h.upd hW hwr.1 hwr.2.1 hwr.2.2) i1 x hi1 hxl ω;have Nz:=hwr.1;have hgw:=hwr.2.2;have hcg:=h.h1;have hlt:=h.lt
  by_cases hz:d*i1+1<L1.length
  ·rw [decide_eq_true hz] at kf;have hcell:=fun c hc=>h.cell c hc;have hdl:=fun c (hc:qP O.R d L1 i1 c)=>HX.out.2.1 (L1.getD c 0) (hpm.mem_iff.1 (qg hc.lt (by have:=fB hd.1 hc.c0;have:=hc.pc;omega)));have Yv:=fun c (hc:qP O.R d L1 i1 c) W (hW:aa O.wr wr W)=>sM (h.upd hW hwr.1 hwr.2.1 hwr.2.2) i1 (L1.getD c 0) hi1 (HX.out.2.2.1 _ (hpm.mem_iff.1 (qg hc.lt (by have:=fB hd.1 hc.c0;have:=hc.pc;omega)))) ω;have HF:=χ (ψ hH (ψ hP (ψ hn1 (ψ hpm (ψ hO (ψ hT (ψ hu (ψ hl1 (ψ hz h)))))))));clear hH hP hn1 hpm hT hu hl1 h
   go_upto_region 1 with (first
    | ((go_at_call 167;(with_reducible refine (kf).mono ?_));rintro e w1 ⟨c,rfl,AL,hfc⟩)
    | fail)
   have hc:=hfc hz;have hcl:=hc.lt;have hcI:(c:Int)<(L1.length:Int):=ω;have hdc:=hdl c hc;have hcc:=hcell c hcl;have Yv:=Yv c hc;have HC:=χ (ψ hc AL);clear hcell hdl hc hfc hz kf;generalize hy:L1.getD c 0=y at *;have tL:O.On w1 w1:=.start AL.at_;have YM:∀W,O.On w1 W->W.cell? ⟨g,c,none⟩=some (.int .i64 (y:Int)):=fun W hW=>hW.upd.kept (AL.upd.kept hcc hgw) hgw;have Ya:∀W,O.On w1 W->W.cell? ⟨rp,1,none⟩=some (.slice (some ⟨g,0,none⟩) L1.length cap):=fun W hW=>hW.upd.kept (AL.upd.kept hcg Nz) Nz;have hm:∀W,O.On w1 W->_:=fun W hW=>O.VE hW.at_;have hnl:=O.VN;have hen:=O.ent;unfold Enters at hen
   go_region_held3 (O.On w1) (first|assumption|exact tL|(refine ik.On.drew ?_;first|assumption|exact tL)|(refine ik.On.drewN ?_ _;first|assumption|exact tL))
    (first
     | ((with_reducible refine (O.ask y x (ik.On.at_ (w0:=w1) (by first|assumption|exact tL|(refine ik.On.drew ?_;first|assumption|exact tL)|(refine ik.On.drewN ?_ _;first|assumption|exact tL))) hdc hdx).mono ?_);rintro e w5 ⟨rfl,BO,cu⟩;(have vF:O.On w1 w5:=ik.On.asked (by first|assumption|exact tL|(refine ik.On.drew ?_;first|assumption|exact tL)|(refine ik.On.drewN ?_ _;first|assumption|exact tL)) BO cu)))
   have qI:aa O.wr wr w5:=HC.out.2.upd.trans vF.upd;have Yf:=ks w5 qI;have ks6:=Yv w5 qI;have HY:=χ (ψ hy (ψ vF.at_ qI));have cp5:=YM w5 vF;have cg5:=Ya w5 vF;clear ks Yv YM Ya hm tL vF cu BO hO hcc hcg AL;cases hxy:O.lt y x with
   | false=>
    clear ks6
    go_wp2_with (first
     | ((go_at_call 166;(with_reducible refine (Yf).mono ?_));rintro e w2 ⟨rfl,hR,hu2⟩)
     | fail)
    obtain ⟨hH,hP,hn1,hpm,hO,hT,hu,hl1,hz,h⟩:=HF.out;obtain ⟨hy,hat,cu⟩:=HY.out;obtain ⟨hc,AL⟩:=HC.out;have hne:L1.getD c 0≠x:=Lu hi1 hc.lt (by have:=fB hd.1 hc.c0;have:=hc.pc;omega) hn1;have hxc:O.R x (L1.getD c 0):=by
     rcases O.total x (L1.getD c 0) (fun e=>hne e.symm) with e|e
     ·exact e
     ·rw [hy] at e;rw [e] at hxy;cases hxy
    exact bodyPost_ret (v:=.tuple #[]) (by simp [results,Tryz.results161,go_sem]) rfl ⟨_,_,rfl,hR,hP.fill hi1 hn1,hpm,O.upd hat hu2 (fun y hy=>by have:=HX.out.2.2.2.1;simp at hy;rcases hy with rfl|rfl;exact this.c;exact this.b),(hu.trans (cu.mono (by simp +contextual))).trans (hu2.mono (by simp +contextual)),hH.fill hd.1 (oL O.tr hc hxc) hT⟩
   | true=>
    clear Yf
    go_wp2_with (first
     | ((go_at_call 166;(with_reducible refine (ks6).mono ?_));rintro e w2 ⟨rfl,hR,hu2⟩)
     | fail)
    go_roundw
    case rel=>
     obtain ⟨hH,hP,hn1,hpm,hO,hT,hu,hl1,hz,h⟩:=HF.out;obtain ⟨hy,hat,cu⟩:=HY.out;obtain ⟨hc,AL⟩:=HC.out;have hci:i1<c:=by have:=fB hd.1 hc.c0;have:=hc.pc;omega
     have hdn:=hH.down O.tr hd.1 hc (x:=x) (by rw [hy];exact hxy);rw [hy] at hdn;have hmv:=hP.move hi1 (p:=c) hc.lt ω hn1;rw [hy] at hmv;have hpr:=xJ (L:=L1) (i:=i1) (p:=c) (x:=x) hi1 hc.lt ω;rw [hy] at hpr;exact ⟨c,_,_,rfl,hR,hdn.1,hmv,by rw [List.length_set];exact hl1,hpr.trans hpm,O.upd hat hu2 (fun y hy=>by have:=HX.out.2.2.2.1;simp at hy;rcases hy with rfl|rfl;exact this.c;exact this.b),(hu.trans (cu.mono (by simp +contextual))).trans (hu2.mono (by simp +contextual)),Or.inr hdn.2⟩
    case measure=>
     have hci:i1<c:=by have hc:=HC.out.1;have:=fB hd.1 hc.c0;have:=hc.pc;omega
     have:=HF.out.2.2.2.2.2.2.2.1;simp [intOf];omega
  ·rw [decide_eq_false hz] at kf;have HF:=χ (ψ hH (ψ hP (ψ hn1 (ψ hpm (ψ hO (ψ hT (ψ hu (ψ hl1 hz))))))));clear hH hP hn1 hpm hT hu hl1 h hz
   go_upto_region 1 with (first
    | ((go_at_call 167;(with_reducible refine (kf).mono ?_));rintro e w1 ⟨c,rfl,AL, -⟩)
    | fail)
   go_quiet (fail)
   have qI:aa O.wr wr (w1.drewN nq):=(AL.drewN nq).upd;have hat:=(AL.drewN nq).at_;have Yf:=ks _ qI;clear ks kf AL
   go_wp2_with (first
    | ((go_at_call 166;(with_reducible refine (Yf).mono ?_));rintro e w2 ⟨rfl,hR,hu2⟩)
    | fail)
   obtain ⟨hH,hP,hn1,hpm,hO,hT,hu,hl1,hz⟩:=HF.out;exact bodyPost_ret (v:=.tuple #[]) (by simp [results,Tryz.results161,go_sem]) rfl ⟨_,_,rfl,hR,hP.fill hi1 hn1,hpm,O.upd hat hu2 (fun y hy=>by have:=HX.out.2.2.2.1;simp at hy;rcases hy with rfl|rfl;exact this.c;exact this.b),(hu.trans (qI.mono (by simp +contextual))).trans (hu2.mono (by simp +contextual)),hH.fill hd.1 (zS hd.1 ω) hT⟩
def mU (w:World) (rp:Nat) (G:List Nat) (d:Nat) (L:List Nat):Prop:=
 ∃mb f v,aO w rp 247 3 (fun j=>[Value.int .i64 (d:Int),v,.map (some mb)].getD j undef)/\w.ownsRow 0 3 1 v L.length (aU (bJ L))/\gN w mb f/\vI f L/\rp≠mb/\(∀g,v.ownBlock=some g->rp≠g/\mb≠g)/\G=rp::mb::v.ownBlock.toList
theorem uV.at_ {w:World} {rp mb g cap d:Nat} {f:Int->Option Int} {L:List Nat} (h:uV w rp mb g cap d f L) (hP:vI f L):mU w rp [rp,mb,g] d L:=
 ⟨mb,f,.slice (some ⟨g,0,none⟩) L.length cap,h.head,by have:=h.row.own;rwa [dI] at this,h.map,hP,h.sep.1,fun g' hg=>by cases hg;exact ⟨h.sep.2.1,h.sep.2.2⟩,rfl⟩
theorem mU.open {w:World} {rp d:Nat} {G L:List Nat} (h:mU w rp G d L) (hl:0<L.length):∃mb g cap f,uV w rp mb g cap d f L/\vI f L/\G=[rp,mb,g]:=by
 obtain ⟨mb,f,v,h1,h2,h3,h4,h5,h6,rfl⟩:=h;obtain ⟨g,cap,e,hI, -⟩:=IZ.iY (l:=bJ L) (by rw [dI];exact h2) (by rw [dI];exact hl);rw [dI] at e;subst e;obtain ⟨s1,s2⟩:=h6 g rfl;exact ⟨mb,g,cap,f,⟨h1,hI,h3,h5,s1,s2⟩,h4,rfl⟩
theorem mU.lt {w:World} {rp d:Nat} {G L:List Nat} (h:mU w rp G d L):∀z,z∈G->z<w.heap.size:=by
 obtain ⟨mb,f,v,h1,h2,h3,h4,h5,h6,rfl⟩:=h;intro z hz;simp only [ρ] at hz;rcases hz with rfl|rfl|hz
 ·exact h1.lt
 ·exact h3.lt
 ·exact (h2.lt z (by simpa using hz)).2
theorem mU.upd {w w':World} {rp d:Nat} {G L S:List Nat} (h:mU w rp G d L) (hu:aa S w w') (hS:∀z,z∈S->z∉G):mU w' rp G d L:=by
 obtain ⟨mb,f,v,h1,h2,h3,h4,h5,h6,rfl⟩:=h;have hn:∀z,z∈rp::mb::v.ownBlock.toList->z∉S:=fun z hz hm=>hS z hm hz;exact ⟨mb,f,v,h1.upd hu (hn _ σ),aF h2 hu (fun k hk=>hn k (by simp [hk])),h3.upd hu (hn _ σ),h4,h5,h6,rfl⟩
theorem WH {f:Int->Option Int} {L:List Nat} (h:vI f L) {x:Nat} (hx:x∉L):f x=none:=by
 cases hf:f x with
 | none=>rfl
 | some v=>
  obtain ⟨y,j,e1, -,hj⟩:=(h x v).1 hf;have:y=x:=ω;subst this;exact absurd (List.mem_of_getElem? hj) hx
theorem Ll {f:Int->Option Int} {L:List Nat} (h:vI f L) {x i:Nat} (hx:L[i]?=some x):f x=some (i:Int):=(h x i).2 ⟨x,i,rfl,rfl,hx⟩
theorem WA {f:Int->Option Int} {L:List Nat} (h:vI f L) (x:Nat):mZ f (L++[x]) L.length x:=fun z v hz=>by
 rw [h z v];constructor
 ·rintro ⟨y,j,rfl,rfl,hj⟩;have:=(List.getElem?_eq_some_iff.1 hj).1;exact ⟨y,j,rfl,rfl,ω,by rw [List.getElem?_append_left this];exact hj⟩
 ·rintro ⟨y,j,rfl,rfl,hne,hj⟩;have h1:=(List.getElem?_eq_some_iff.1 hj).1;simp at h1;rw [List.getElem?_append_left ω] at hj;exact ⟨y,j,rfl,rfl,hj⟩
theorem Ho (d:Nat) (hd:2<=d/\d<=16) (w:World) :
  Calls Tryz.prog 108 #[.int .i64 (d:Int)] w fun e w'=>∃rp G,e=.returned (.tuple #[.pointer (some ⟨rp,0,none⟩),.int .i64 0])/\mU w' rp G d []/\aa [] w w'/\∀z,z∈G->w.heap.size<=z:=by
 have kf:∀W,Calls Tryz.prog 115 #[.int .i64 (d:Int)] W fun e w'=>e=.returned (.bool true)/\w'=W:=fun W=>by
  have h1:(d:Int)≥2:=ω;have h2:(d:Int)<=16:=ω
  go_enter Tryz.func115,Tryz.ntmps115
  go_wp2;go_ret;exact ⟨rfl,rfl⟩
 have hmm:=@run_makeMap Tryz.prog
 go_enter Tryz.func108,Tryz.ntmps108
 go_wp2_with (first|(go_at_call 115;(with_reducible refine (kf _).mono ?_);rintro e w9 ⟨rfl,aM⟩;rw [aM];clear aM w9)|fail)
 go_ret2;have hm:=gN.made w;have hh:=eH (w.alloc (.map #[] 0)) [.int .i64 (d:Int),.slice none 0 0,.map (some w.heap.size)] 247;have e1:(w.alloc (.map #[] 0)).heap.size=w.heap.size+1:=by rw [World.size_alloc]
 rw [e1] at hh;have hv:aa [] (w.alloc (.map #[] 0)) ((w.alloc (.map #[] 0)).alloc (.cells #[.int .i64 (d:Int),.slice none 0 0,.map (some w.heap.size)] 247)):=(aa.refl _ _).alloc _;refine ⟨w.heap.size+1,[w.heap.size+1,w.heap.size],rfl,⟨w.heap.size,fun _=>none,.slice none 0 0,hh,⟨rfl,Or.inl ⟨rfl,rfl⟩⟩,hm.upd hv σ,fun z v=>σ,ω,fun g hg=>(by cases hg),rfl⟩,β,fun z hz=>?_⟩;simp at hz;omega
theorem Sa {w:World} {rp d:Nat} {G:List Nat} (h:mU w rp G d []):Calls Tryz.prog 157 #[.pointer (some ⟨rp,0,none⟩),.int .i64 0] w fun e w'=>e=.returned (.tuple #[.int .i64 0,.bool false])/\w'=w:=by
 obtain ⟨mb,f,v,h1,h2, -, -, -, -, -⟩:=h;obtain ⟨a,c,rfl,hc⟩:=bu h2;have c1:=h1.cellAt 1 (v:=.slice a 0 c) ω rfl;clear h1 h2
 go_enter Tryz.func157,Tryz.ntmps157
 go_wp2;go_ret2;exact ⟨rfl,rfl⟩
theorem SK {w:World} {rp d x:Nat} {G L:List Nat} (h:mU w rp G d (x::L)):Calls Tryz.prog 157 #[.pointer (some ⟨rp,0,none⟩),.int .i64 0] w fun e w'=>e=.returned (.tuple #[.int .i64 (x:Int),.bool true])/\w'=w:=by
 obtain ⟨mb,g,cap,f,hM, -, -⟩:=h.open σ;have c1:=hM.h1;have c2:=hM.cell 0 σ;rw [show (x::L).getD 0 0=x from rfl] at c2;have hn:0<(x::L).length:=σ;generalize (x::L).length=n at *;have hn1:¬ (0:Int)≥(n:Int):=ω;have hn2:(0:Int)<(n:Int):=ω;have Jm:¬n=0:=ω;clear hM h
 go_enter Tryz.func157,Tryz.ntmps157
 go_wp2;go_ret2;exact ⟨rfl,rfl⟩
theorem Q9 (O:ik) {w:World} {rp d:Nat} {G L:List Nat} (hO:O.at_ w) (h:mU w rp G d L) (hd:2<=d/\d<=16) (hl:L.length+1<=65536) (hH:Hp O.R d L) (x:Nat) (hx:x∉L) (hn:L.Nodup)
  (hdom:∀y,y∈x::L->O.dom y) (h16:∀y,y∈x::L->y<=65536) (hsep:∀z,z∈G->z∉O.rd) :
  Calls Tryz.prog 155 #[.pointer (some ⟨rp,0,none⟩),.iface O.ty (.pointer (some ⟨O.p,0,none⟩)),.int .i64 (x:Int)] w fun e w'=>e=.returned (.bool true)/\∃G' L',mU w' rp G' d L'/\L'.Perm (x::L)/\Hp O.R d L'/\O.at_ w'/\aa (G++O.wr) w w'/\∀z,z∈G'->z∈G\/w.heap.size<=z:=by
 obtain ⟨mb,f,v,h1,h2,h3,h4,h5,h6,rfl⟩:=h;have hfx:=WH h4 hx;have HXx:=χ hx;have hxl:=h16 x σ;obtain ⟨a,cc,rfl,hcc⟩:=bu h2;have c1:=h1.cellAt 1 (v:=.slice a L.length cc) ω rfl;have c2:=h1.cellAt 2 (v:=.map (some mb)) ω rfl;have f1:=h1.free 1;have hlr:=h1.lt;have hlo:=h2.lt;have hms:∀z,z∈(Value.slice a L.length cc).ownBlock.toList->rp≠z/\mb≠z:=fun z hz=>h6 z (by simpa using hz);have hp:=hH.snoc O.tr hd.1 (x:=x);have hpl:=WA h4 x;have hset:(L++[x]).set L.length x=L++[x]:=σ;have Br:(L++[x]).Perm (x::L):=List.perm_append_comm (l₁:=L) (l₂:=[x])
 have HX:=χ (ψ hO (ψ h1 (ψ h3 (ψ h5 (ψ hms (ψ hp (ψ hpl (ψ hset (ψ Br (ψ hn (ψ hdom (ψ h16 (ψ hsep hlo)))))))))))));have hmb:gN w mb f:=h3;have hgl:(Value.slice a L.length cc).ownBlock.toList=(Value.slice a L.length cc).ownBlock.toList:=rfl;clear h1 h3 h4 h6 hH hx hn hdom h16 hsep hO hms hp hpl hset Br hlo;generalize hnl:L.length=n at *;have HN:=χ hnl;clear hnl
 go_enter Tryz.func155,Tryz.ntmps155
 go_upto_region 5 with (first
  | (at_lookup;refine ny rfl _ _ rfl mb f rfl hmb (x:Int) rfl ω ?_;rw [hfx];simp only [Option.getD_none,Option.isSome_none])
  | ((at_builtin;refine aW rfl _ _ 26 rfl 0 3 (.int .i64 0) 1 8 Tryz.underlying26 fK rfl δ _ _ _ rfl (h2) [.int .i64 (x:Int)] rfl (by simp [Value.oneCell']) (by first|rfl|(rw [World.size_alloc];rfl)) μ ω (ω) ?_;intro v2 w2 ho2 hu2 mW);obtain ⟨a2,cc2,rfl,hcc2⟩:=bu ho2;(have d1:w2.cell? ⟨rp,1,none⟩=some (.slice a n cc):=hu2.kept c1 (fun hm=>(HX.out.2.2.2.2.1 rp hm).1 rfl));(have e1:=hu2.aR c1 (fun hm=>(HX.out.2.2.2.2.1 rp hm).1 rfl) f1))
  | fail)
 obtain ⟨hO,h1,h3,h5,hms,hp,hpl,hset,Br,hn,hdom,h16,hsep,hlo⟩:=HX.out;have hnz:bJ (L++[x])=bJ L++[(x:Int)]:=by unfold bJ;simp
 have hL1:(L++[x]).length=n+1:=by rw [υ,HN.out];rfl
 obtain ⟨g2,cap2,e2,hI2, -⟩:=IZ.iY (l:=bJ (L++[x])) (by rw [dI,hL1,hnz,bN];exact ho2) (by rw [dI,hL1];omega);rw [dI,hL1] at e2;cases e2;have hg2:rp≠g2/\mb≠g2/\(g2∈(Value.slice a n cc).ownBlock.toList\/w.heap.size<g2):=by
  rcases mW with e|e
  ·have hm:g2∈(Value.slice a n cc).ownBlock.toList:=by have e':(Value.slice a n cc).ownBlock=some g2:=e.symm;rw [e'];simp
   have:=hms g2 hm;exact ⟨this.1,this.2,Or.inl hm⟩
  ·have h7:=e g2 rfl;have h8:=h3.lt;exact ⟨ω,ω,Or.inr h7⟩
 have hw0:aa (Value.slice a n cc).ownBlock.toList w w2:=hu2;have Iu:aa [rp] w2 (w2.setCell ⟨rp,1,none⟩ (.slice (some ⟨g2,0,none⟩) (n+1) cc2)):=β;have hnm:∀z,z∈(Value.slice a n cc).ownBlock.toList->rp≠z/\mb≠z:=hms;have hR:uV (w2.setCell ⟨rp,1,none⟩ (.slice (some ⟨g2,0,none⟩) (n+1) cc2)) rp mb g2 cc2 d f (L++[x]):=by
  refine ⟨((h1.upd hw0 (fun hm=>(hnm rp hm).1 rfl)).set 1 _).ext (fun j hj=>?_),hI2.upd Iu (by simp;exact fun e=>hg2.1 e.symm),(h3.upd hw0 (fun hm=>(hnm mb hm).2 rfl)).upd Iu (by simp;exact fun e=>h5 e.symm),h5,hg2.1,hg2.2.1⟩;rw [hL1];rcases (ω:j=0\/j=1\/j=2) with rfl|rfl|rfl<;>rfl
 have hrd:∀z,z∈(Value.slice a n cc).ownBlock.toList->z∉O.rd:=fun z hz=>hsep z (List.mem_cons_of_mem _ (List.mem_cons_of_mem _ hz));have hOl:=O.low hO;have hat:O.at_ (w2.setCell ⟨rp,1,none⟩ (.slice (some ⟨g2,0,none⟩) (n+1) cc2)):=O.upd (O.upd hO hw0 hrd) Iu (fun z hz=>by simp at hz;rw [hz];exact hsep rp σ);have ku:=Em O hat hR hd ω n x hp.1 hpl (by rw [hset];exact Br.nodup_iff.2 (List.nodup_cons.2 ⟨HXx.out,hn⟩)) (fun y hy=>hdom y (Br.mem_iff.1 (by rw [←hset];exact hy))) (fun y hy=>h16 y (Br.mem_iff.1 (by rw [←hset];exact hy)))
  ⟨hsep rp σ,hsep mb σ,fun hm=>by rcases hg2.2.2 with e|e;exact hrd g2 e hm;have:=hOl g2 hm;omega⟩
 rw [hset] at ku;have k1:((n+1:Nat):Int)-1=(n:Int):=ω;have HR:=χ (ψ hp.2 (ψ Br (ψ hg2 (ψ hw0 Iu))));have c9:=hR.h1;rw [hL1] at c9;have hwr9:wrap64 ((n:Int)+1-1)=(n:Int):=by rw [show (n:Int)+1-1=n by omega];exact IntWalk.wrap64_in _ ω
 clear hR hat hp hpl Br hms hdom h16 hI2 ho2 hu2 mW d1 e1 hw0 Iu hsep hset
 go_wp2_with (first
  | ((go_at_call 159;(with_reducible refine (ku).mono ?_));rintro e w5 ⟨k,f',L',rfl,Mm,Pt,PS,BO,cu,hk5,hH5⟩)
  | fail)
 obtain ⟨hb,Br,hg2,hw0,Iu⟩:=HR.out;have hsz:=hw0.size;go_ret;refine ⟨rfl,_,L',Mm.at_ Pt,PS.trans Br,hH5 (Or.inr hb),BO,?_,fun z hz=>?_⟩
 ·refine ((hw0.mono (fun z hz=>by simp [hz])).trans (Iu.mono (fun z hz=>by simp at hz;simp [hz]))).joined cu (fun z hz=>?_);simp only [ρ,τ] at hz ⊢;rcases hz with rfl|rfl|hz
  ·rcases hg2.2.2 with e|e
   ·exact Or.inl (Or.inr (Or.inr (Or.inl e)))
   ·exact Or.inr ω
  ·exact Or.inl (Or.inr (Or.inl rfl))
  ·exact Or.inl (Or.inr (Or.inr (Or.inr hz)))
 ·simp only [ρ,ς,or_false] at hz;rcases hz with rfl|rfl|rfl
  ·exact Or.inl σ
  ·exact Or.inl σ
  ·rcases hg2.2.2 with e|e
   ·exact Or.inl (by simp [e])
   ·exact Or.inr ω
theorem JL (O:ik) {w:World} {rp d:Nat} {G L:List Nat} (hO:O.at_ w) (h:mU w rp G d L) (hd:2<=d/\d<=16) (hl:L.length<=65536) (i x:Nat) (hx:L[i]?=some x) (hn:L.Nodup) (hH:fH O.R d L i) (hB:Below O.R d L i x)
  (hdom:∀y,y∈L->O.dom y) (h16:∀y,y∈L->y<=65536) (hsep:∀z,z∈G->z∉O.rd) :
  Calls Tryz.prog 148 #[.pointer (some ⟨rp,0,none⟩),.iface O.ty (.pointer (some ⟨O.p,0,none⟩)),.int .i64 (x:Int)] w fun e w'=>e=.returned (.bool true)/\∃L',mU w' rp G d L'/\L'.Perm L/\Hp O.R d L'/\O.at_ w'/\aa (G++O.wr) w w':=by
 have hi:=hH.lt;obtain ⟨mb,g,cap,f,hM,hP,rfl⟩:=h.open ω;have hset:L.set i x=L:=by
  obtain ⟨_,e⟩:=List.getElem?_eq_some_iff.1 hx;rw [←e];simp
 have hxm:=List.mem_of_getElem? hx;have ku:=Em O hO hM hd hl i x hH (hP.hole hx) (by rw [hset];exact hn) (fun y hy=>hdom y (by rw [←hset];exact hy)) (fun y hy=>h16 y (by rw [←hset];exact hy)) ⟨hsep rp σ,hsep mb σ,hsep g σ⟩;rw [hset] at ku;have c2:=hM.h2;have hfx:=Ll hP hx;have hmb:=hM.map;have hxl:=h16 x hxm;have HB:=χ hB;clear h hM hP hx hn hH hB hdom h16 hsep hO hset hxm
 go_enter Tryz.func148,Tryz.ntmps148
 go_wp2_with (first
  | (at_lookup;refine ny rfl _ _ rfl mb f rfl hmb (x:Int) rfl ω ?_;rw [hfx];simp only [Option.getD_some,Option.isSome_some])
  | ((go_at_call 159;(with_reducible refine (ku).mono ?_));rintro e w5 ⟨k,f',L',rfl,Mm,Pt,PS,BO,cu,hk5,hH5⟩)
  | fail)
 go_ret;refine ⟨rfl,L',Mm.at_ Pt,PS,hH5 (Or.inr HB.out),BO,cu.mono (fun z hz=>?_)⟩;simp only [ρ,τ] at hz ⊢;rcases hz with rfl|rfl|hz
 ·simp
 ·simp
 ·simp [hz]
theorem IZ.take {w:World} {g cap:Nat} {l:List Int} (h:IZ w g cap l) (n:Nat) (hn:n<=l.length):IZ w g cap (l.take n):=by
 rcases h.own.2 with ⟨h1,_⟩|⟨g',cap',cur,h1,hb,hg,hc,hm,hs,ht⟩
 ·cases h1
 ·cases h1;have hl:(l.take n).length=n:=ζ;refine ⟨⟨by rw [fG];omega,Or.inr ⟨g,cap,cur,rfl,ω,hg,ω,hm,hs,?_⟩⟩⟩;rw [hl];have:cur.toList.take (n*1)=(cur.toList.take (l.length*1)).take (n*1):=by rw [List.take_take];congr 1;omega
  rw [this,ht];unfold aU;rw [←List.map_take,Nat.mul_one]
theorem Tg (L:List Nat) (n:Nat):bJ (L.take n)=(bJ L).take n:=by unfold bJ;rw [List.map_take]
def Ol (f:Int->Option Int) (k:Int):Int->Option Int:=fun q=>if q=k then none else f q
theorem wo {L:List Nat} {n:Nat} (hl:L.length=n+1):L=L.take n++[L.getD n 0]:=by
 have h1:L[n]?=some (L.getD n 0):=by simp [φ,hl]
 have h2:L.drop n=[L.getD n 0]:=by
  apply List.ext_getElem?;intro j;rw [List.getElem?_drop];cases j with
  | zero=>simpa using h1
  | succ j=>rw [List.getElem?_eq_none ω];simp
 calc L=L.take n++L.drop n:=(List.take_append_drop n L).symm
  _=_:=by rw [h2]
theorem UB {f:Int->Option Int} {L:List Nat} {n:Nat} (h:vI f L) (hl:L.length=n+1) (hn:L.Nodup):vI (Ol f (L.getD n 0:Nat)) (L.take n):=fun z v=>by
 have h1:L[n]?=some (L.getD n 0):=by simp [φ,hl]
 unfold Ol
 by_cases e:z=((L.getD n 0:Nat):Int)
 ·rw [if_pos e];constructor
  ·intro h;cases h
  ·rintro ⟨y,j,rfl,rfl,hj⟩;rw [List.getElem?_take] at hj
   split at hj
   ·rename_i hjn
    have ey:y=L.getD n 0:=ω;rw [←ey] at h1;obtain ⟨g1,e1⟩:=List.getElem?_eq_some_iff.1 hj;obtain ⟨g2,e2⟩:=List.getElem?_eq_some_iff.1 h1;have:=(List.getElem_inj hn).1 (e1.trans e2.symm);omega
   ·cases hj
 ·rw [if_neg e,h z v];constructor
  ·rintro ⟨y,j,rfl,rfl,hj⟩;have hjl:=(List.getElem?_eq_some_iff.1 hj).1;have hjn:j≠n:=fun e2=>by rw [e2,h1] at hj;cases hj;exact e rfl
   exact ⟨y,j,rfl,rfl,by rw [List.getElem?_take,if_pos ω];exact hj⟩
  ·rintro ⟨y,j,rfl,rfl,hj⟩;rw [List.getElem?_take] at hj
   split at hj
   ·exact ⟨y,j,rfl,rfl,hj⟩
   ·cases hj
theorem Vk {f:Int->Option Int} {L:List Nat} {n i x:Nat} (h:vI f L) (hl:L.length=n+1) (hx:L[i]?=some x) (hi:i<n) (hn:L.Nodup):mZ (Ol f x) (L.take n) i (L.getD n 0):=fun z v hz=>by
 have h1:L[n]?=some (L.getD n 0):=by simp [φ,hl]
 unfold Ol
 by_cases e:z=(x:Int)
 ·rw [if_pos e];constructor
  ·intro h;cases h
  ·rintro ⟨y,j,rfl,rfl,hji,hj⟩;rw [List.getElem?_take] at hj
   split at hj
   ·have ey:y=x:=ω;rw [ey] at hj;obtain ⟨g1,e1⟩:=List.getElem?_eq_some_iff.1 hj;obtain ⟨g2,e2⟩:=List.getElem?_eq_some_iff.1 hx;exact absurd ((List.getElem_inj hn).1 (e1.trans e2.symm)) hji
   ·cases hj
 ·rw [if_neg e,h z v];constructor
  ·rintro ⟨y,j,rfl,rfl,hj⟩;have hjl:=(List.getElem?_eq_some_iff.1 hj).1;have hjn:j≠n:=fun e2=>by rw [e2,h1] at hj;cases hj;exact hz rfl
   have hji:j≠i:=fun e2=>by rw [e2,hx] at hj;cases hj;exact e rfl
   exact ⟨y,j,rfl,rfl,hji,by rw [List.getElem?_take,if_pos ω];exact hj⟩
  ·rintro ⟨y,j,rfl,rfl,hji,hj⟩;rw [List.getElem?_take] at hj
   split at hj
   ·exact ⟨y,j,rfl,rfl,hj⟩
   ·cases hj
theorem MC {L:List Nat} {n i x:Nat} (hl:L.length=n+1) (hx:L[i]?=some x) (hi:i<n):(x::(L.take n).set i (L.getD n 0)).Perm L:=by
 have h0:=wo hl;have hit:(L.take n)[i]?=some x:=by rw [List.getElem?_take,if_pos hi];exact hx
 have hlt:(L.take n).length=n:=ζ;generalize L.getD n 0=y at *;generalize L.take n=T at *;obtain ⟨hiT,Jp⟩:=List.getElem?_eq_some_iff.1 hit;rw [h0];have e1:T.set i y=T.take i++y::T.drop (i+1):=by rw [List.set_eq_take_append_cons_drop,if_pos hiT]
 have e2:T=T.take i++x::T.drop (i+1):=by
  have h2:T.set i x=T:=by rw [←Jp];simp
  rw [List.set_eq_take_append_cons_drop,if_pos hiT] at h2;exact h2.symm
 rw [e1];have p1:(x::(T.take i++y::T.drop (i+1))).Perm (x::y::(T.take i++T.drop (i+1))):=List.Perm.cons x List.perm_middle;have p2:(T++[y]).Perm (y::x::(T.take i++T.drop (i+1))):=by
  refine (List.perm_append_comm (l₁:=T) (l₂:=[y])).trans (List.Perm.cons y ?_);have p3:(T.take i++x::T.drop (i+1)).Perm (x::(T.take i++T.drop (i+1))):=List.perm_middle;rw [←e2] at p3;exact p3
 exact p1.trans ((List.Perm.swap y x _).trans p2.symm)
theorem G7 (O:ik) {w:World} {rp d:Nat} {G L:List Nat} (hO:O.at_ w) (h:mU w rp G d L) (hd:2<=d/\d<=16) (hl:L.length<=65536) (x:Nat) (hxm:x∈L) (hn:L.Nodup) (hH:Hp O.R d L)
  (hdom:∀y,y∈L->O.dom y) (h16:∀y,y∈L->y<=65536) (hsep:∀z,z∈G->z∉O.rd) :
  Calls Tryz.prog 150 #[.pointer (some ⟨rp,0,none⟩),.iface O.ty (.pointer (some ⟨O.p,0,none⟩)),.int .i64 (x:Int)] w fun e w'=>e=.returned (.bool true)/\∃L',mU w' rp G d L'/\(x::L').Perm L/\Hp O.R d L'/\O.at_ w'/\aa (G++O.wr) w w':=by
 obtain ⟨i,hi,hxi⟩:=List.mem_iff_getElem.1 hxm;have hx:L[i]?=some x:=by rw [ε hi,hxi]
 obtain ⟨n,hln⟩:∃n,L.length=n+1:=⟨L.length-1,ω⟩;obtain ⟨mb,g,cap,f,hM,hP,rfl⟩:=h.open ω;have c1:=hM.h1;have c2:=hM.h2;have hcp:=hM.row.cap;rw [dI] at hcp;have fr:=hM.head.free 1;have cl:=hM.cell n ω;have hfx:=Ll hP hx;have hmb:gN w mb f:=hM.map;have hxl:=h16 x hxm;have hlt:=hM.lt;have UK:=hM.sep;have hlast:L[n]?=some (L.getD n 0):=by simp [φ,hln]
 have hym:=List.mem_of_getElem? hlast;have hyl:=h16 _ hym;have Vw:(L.take n).length=n:=ζ;rw [hln] at c1 hcp;have NJ:∀W f',IZ W g cap (bJ L)->gN W mb f'->aO W rp 247 3 (fun j=>[Value.int .i64 (d:Int),.slice (some ⟨g,0,none⟩) n cap,.map (some mb)].getD j undef)->uV W rp mb g cap d f' (L.take n):=fun W f' h1 h2 h3=>
  ⟨by rw [Vw];exact h3,by rw [Tg];exact h1.take n (by rw [dI];omega),h2,UK⟩
 have Iu:aa [rp] w (w.setCell ⟨rp,1,none⟩ (.slice (some ⟨g,0,none⟩) n cap)):=β;have EU:aO (w.setCell ⟨rp,1,none⟩ (.slice (some ⟨g,0,none⟩) n cap)) rp 247 3 (fun j=>[Value.int .i64 (d:Int),.slice (some ⟨g,0,none⟩) n cap,.map (some mb)].getD j undef):=
  (hM.head.set 1 _).ext (fun j hj=>by rcases (ω:j=0\/j=1\/j=2) with rfl|rfl|rfl<;>rfl)
 have hI1:=hM.row.upd Iu (by simp;exact fun e=>UK.2.1 e.symm);have hm1:=hM.map.upd Iu (by simp;exact fun e=>UK.1 e.symm);have SL:=O.upd hO Iu (fun z hz=>by simp at hz;rw [hz];exact hsep rp σ);have HX:=χ (ψ hP (ψ hn (ψ hH (ψ hdom (ψ h16 (ψ hsep (ψ hx (ψ hln (ψ Vw (ψ NJ (ψ Iu (ψ EU (ψ hI1 (ψ SL UK))))))))))))));have hiI:(i:Int)<(n:Int)+1:=ω;have hin:i<=n:=ω;clear hM hP hn hH hdom h16 hsep hO hx hxi Vw NJ EU hI1 SL hlast hym;generalize hy:L.getD n 0=y at *;have HYy:=χ hy;have hwr:wrap64 ((n:Int)+1-1)=(n:Int):=by rw [show (n:Int)+1-1=n by omega];exact IntWalk.wrap64_in _ ω
 have hwr2:(n:Int)+1-1=(n:Int):=ω;have hnI:(n:Int)<(n:Int)+1:=ω;have hncI:(n:Int)<=(cap:Int):=ω;have hwr3:IntKind.i64.wrap (n:Int)=(n:Int):=IntWalk.i64_in _ ω;have hn0I:(0:Int)<=(n:Int):=ω;have HF:=χ (ψ hin hxm);clear hin
 go_enter Tryz.func150,Tryz.ntmps150
 go_upto_region 4 with (first
  | (at_lookup;refine ny rfl _ _ rfl mb f rfl hmb (x:Int) rfl ω ?_;rw [hfx];simp only [Option.getD_some,Option.isSome_some])
  | fail)
 go_quiet (fail)
 go_upto_region 5 with (fail)
 go_region_law (fail)
 all_goals
  go_upto_region 6 with (fail)
  refine jA (fun W=>aa [] (w.setCell ⟨rp,1,none⟩ (.slice (some ⟨g,0,none⟩) n cap)) W) ⟨rfl,rfl,rfl,Nat.le_refl _,fun _ _ _=>rfl⟩ ?_;intro W hW;obtain ⟨hP,hn,hH,hdom,h16,hsep,hx,hln,Vw,NJ,Iu,EU,hI1,SL,UK⟩:=HX.out;have hmW:=hm1.upd hW σ;have hhW:=EU.upd hW σ;have hIW:=hI1.upd hW σ;have Zh:=O.upd SL hW σ;have c2W:=hhW.cellAt 2 (v:=.map (some mb)) ω rfl;have Uk:aa [rp] w W:=Iu.then hW;clear hm1 EU hI1 SL hW c1 c2 fr cl;have Zw:∀w3,gN w3 mb (Ol f x)->aa [mb] W w3->uV w3 rp mb g cap d (Ol f x) (L.take n)/\O.at_ w3:=fun w3 Ud hu3=>
   ⟨NJ w3 _ (hIW.upd hu3 (by simp;exact fun e=>UK.2.2 e.symm)) Ud (hhW.upd hu3 (by simp;exact UK.1)),O.upd Zh hu3 (fun z hz=>by simp at hz;rw [hz];exact hsep mb σ)⟩
  by_cases hin2:i=n
  ·have hyx:y=x:=by
    have h1:L[n]?=some y:=by rw [←HYy.out];simp [φ,hln]
    rw [←hin2,hx] at h1;cases h1;rfl
   have hyx2:((y:Int) == (x:Int))=true:=by simp [hyx]
   have HG:=χ (ψ hP (ψ hn (ψ hH (ψ Zw (ψ Uk (ψ hyx hln))))));clear hP hn hH hdom h16 hsep hx hln Vw NJ Iu UK hhW hIW Zh Zw Uk hyx hin2
   go_upto_region 7 with (first
    | (at_delete;refine oQ rfl _ _ rfl mb _ rfl hmW (x:Int) rfl ω ?_;intro w3 Ud hu3)
    | fail)
   go_wp2;go_ret;obtain ⟨hP,hn,hH,Zw,Uk,hyx,hln⟩:=HG.out;obtain ⟨hR3,hO3⟩:=Zw w3 Ud hu3;have hpl:=UB hP hln hn;rw [HYy.out,hyx] at hpl;refine ⟨rfl,L.take n,hR3.at_ hpl,?_,hH.take hd.1,hO3,(Uk.mono (fun z hz=>by simp at hz;simp [hz])).trans (hu3.mono (fun z hz=>by simp at hz;simp [hz]))⟩;have h0:=wo hln;rw [HYy.out,hyx] at h0
   conv=>rhs;rw [h0]
   exact (List.perm_append_comm (l₁:=L.take n) (l₂:=[x])).symm
  ·have hi2:i<n:=ω;have hyx:y≠x:=fun e=>by
    have h1:L[n]?=some y:=by rw [←HYy.out];simp [φ,hln]
    rw [e] at h1;obtain ⟨g1,e1⟩:=List.getElem?_eq_some_iff.1 h1;obtain ⟨g2,e2⟩:=List.getElem?_eq_some_iff.1 hx;exact hin2 ((List.getElem_inj hn).1 (e1.trans e2.symm)).symm
   have hyx2:((y:Int) == (x:Int))=false:=ζ;have Pp:=MC hln hx hi2;have hgo:=Vk hP hln hx hi2 hn;rw [HYy.out] at Pp hgo;have Ww:=(hH.take (n:=n) hd.1).hole O.tr hd.1 (i:=i) (by rw [Vw];exact hi2);have hnd:=List.nodup_cons.1 (Pp.nodup_iff.2 hn);have hdm:∀z,z∈(L.take n).set i y->O.dom z:=fun z hz=>hdom z (Pp.mem_iff.1 (List.mem_cons_of_mem _ hz));have h6m:∀z,z∈(L.take n).set i y->z<=65536:=fun z hz=>h16 z (Pp.mem_iff.1 (List.mem_cons_of_mem _ hz));have hsq:Ot O rp mb g:=⟨hsep rp σ,hsep mb σ,hsep g σ⟩
   have ku:=fun w3 Ud hu3=>Em O (Zw w3 Ud hu3).2 (Zw w3 Ud hu3).1 hd ω i y Ww hgo hnd.2 hdm h6m hsq;have hit:((L.take n).set i y)[i]?=some y:=by simp [Vw,hi2]
   have hss:((L.take n).set i y).set i y=(L.take n).set i y:=by rw [List.set_set]
   have kd:=fun (w5:World) (f5:Int->Option Int) (BO:O.at_ w5) (Mm:uV w5 rp mb g cap d f5 ((L.take n).set i y)) (Pt:vI f5 ((L.take n).set i y)) (hT:i=0\/O.R ((L.take n).getD (par d i) 0) y)=>
    N8 O BO Mm hd (by rw [List.length_set,Vw];omega) i y (Ww.any hd.1 y) (Pt.hole hit) (by rw [hss];exact hnd.2) (fun z hz=>hdm z (by rw [←hss];exact hz)) (fun z hz=>h6m z (by rw [←hss];exact hz)) hsq
     (by rcases Nat.eq_zero_or_pos i with h|h;exact Or.inl h;rcases hT with e|e;exact Or.inl e;exact Or.inr (by have:=fB hd.1 h;rw [dP,if_neg ω];exact e))
   simp only [hss] at kd;have HG:=χ (ψ Pp (ψ Uk hnd));have hiI2:(i:Int)<(n:Int):=ω;clear hP hn hH hdom h16 hsep hx hln Vw NJ Iu UK hhW hIW Zh Zw Uk hyx hin2 Pp hgo Ww hnd hdm h6m hsq hit hss
   go_upto_region 9 with (first
    | (at_delete;refine oQ rfl _ _ rfl mb _ rfl hmW (x:Int) rfl ω ?_;intro w3 Ud hu3)
    | fail)
   have ku3:=ku w3 Ud hu3;clear ku
   go_wp2_with (first
    | ((go_at_call 159;(with_reducible refine (ku3).mono ?_));rintro e w5 ⟨k,f',L',rfl,Mm,Pt,PS,BO,cu,hk5,hH5⟩)
    | ((go_at_call 161;(have hki:k=i:=by have h:=(by assumption:((k:Int) == (i:Int))=true);simp at h;omega);(obtain ⟨hL5,IL⟩:=hk5 hki);(rw [hL5] at Mm Pt);(refine (kd w5 f' BO Mm Pt IL).mono ?_));rintro e w6 ⟨f6,L6,rfl,Zy,hP6,hpr6,hO6,iB,hH6⟩)
    | fail)
   all_goals
    go_ret;obtain ⟨Pp,Uk,hnd⟩:=HG.out;have DN:aa (rp::mb::g::O.wr) w w5:=((Uk.mono (fun z hz=>by simp at hz;simp [hz])).trans (hu3.mono (fun z hz=>by simp at hz;simp [hz]))).trans (cu.mono (fun z hz=>by simp only [ρ] at hz ⊢;rcases hz with h|h|h;exact Or.inr (Or.inr (Or.inl h));exact Or.inr (Or.inl h);exact Or.inr (Or.inr (Or.inr h))))
    first
     | (refine ⟨rfl,L6,Zy.at_ hP6,(hpr6.cons x).trans Pp,hH6,hO6,DN.trans (iB.mono (fun z hz=>by simp only [ρ] at hz ⊢;rcases hz with h|h|h;exact Or.inr (Or.inr (Or.inl h));exact Or.inr (Or.inl h);exact Or.inr (Or.inr (Or.inr h))))⟩)
     | (refine ⟨rfl,L',Mm.at_ Pt,(PS.cons x).trans Pp,hH5 (Or.inl (by have h:=(by assumption:((k:Int) == (i:Int))=false);simp at h;omega)),BO,DN⟩)
theorem Ep (p c:Nat):∀W:World,W.cell? ⟨p,0,none⟩=some (.pointer (some ⟨c,0,none⟩))->(method 429 170 (.pointer (some ⟨p,0,none⟩)) "Ahead").run Tryz.prog W=.ok (174,.pointer (some ⟨c,0,none⟩)) W:=(by intro W h;unfold method;have hm:∃m,(Array.find? (fun x=>x.name == "Ahead") Tryz.t170.methods)=some m/\m.path.toList=[⟨207,0,true⟩]/\m.func=some (174,true)/\m.path.isEmpty=false:=⟨(Array.find? (fun x=>x.name == "Ahead") Tryz.t170.methods).get!,by kernel_rfl,by kernel_rfl,by kernel_rfl,by kernel_rfl⟩;obtain ⟨m,h1,h2,h3,h4⟩:=hm;go_simp;simp only [follow,Place.get];go_simp;(try unfold receiverAt);(try simp only [Place.get]);(try go_simp))
theorem Ea (p:Nat):∀W:World,(nilAhead 429 170 (.pointer (some ⟨p,0,none⟩)) "Ahead").run Tryz.prog W=.ok (some false) W:=fun W=>by kernel_rfl
structure DB where
 n0:Nat
 c:Nat
 d:Nat
def rowK (d:Nat):RwK:=⟨fun w p G L=>mU w p G d L,fun h hu hS=>h.upd hu hS,fun h=>h.lt⟩
def nC (A:NS) (h:Nat):Bool:=bK A (h:Int)
structure vS (w:World) (B:DB) (F Z:List Nat) (gr cr:Nat) (A:NS) (st:Nat) (ptr:Nat->Option Nat) (G L:Nat->List Nat):Prop where
 head:aO w B.n0 207 3 (fun j=>[Value.pointer (some ⟨B.c,0,none⟩),.int .i64 (B.d:Int),.slice (some ⟨gr,0,none⟩) A.hs.length cr].getD j undef)
 cells:aG w B.c F A st
 lJ:uW (rowK B.d) 202 w gr cr A.hs.length (nC A) Z ptr G L
 bI:B.n0∉F/\gr∉F/\B.n0≠gr
 lH:∀z,z∈Z->z∉F/\z≠B.n0
 dd:2<=B.d/\B.d<=16
def DB.blk (B:DB) (F Z:List Nat) (gr:Nat):List Nat:=B.n0::gr::(F++Z)
section
variable {w:World} {B:DB} {F Z:List Nat} {gr cr st:Nat} {A:NS} {ptr:Nat->Option Nat} {G L:Nat->List Nat}
theorem vS.upd {w':World} {S:List Nat} (h:vS w B F Z gr cr A st ptr G L) (hu:aa S w w') (hS:∀x,x∈S->x∉B.blk F Z gr):vS w' B F Z gr cr A st ptr G L:=by
 have h1:∀x,x∈B.blk F Z gr->x∉S:=fun x hx hg=>hS x hg hx;exact ⟨h.head.upd hu (h1 _ (by simp [DB.blk])),h.cells.upd hu (fun x hx hm=>hS x hx (by simp [DB.blk,hm])),h.lJ.upd hu (fun z hz=>⟨fun e=>hS z hz (by simp [DB.blk,e]),fun e=>hS z hz (by simp [DB.blk,e])⟩),h.bI,h.lH,h.dd⟩
theorem vS.aA {w':World} (h:vS w B F Z gr cr A st ptr G L) (hu:aa [] w w'):vS w' B F Z gr cr A st ptr G L:=h.upd hu σ
theorem vS.lt (h:vS w B F Z gr cr A st ptr G L):∀x,x∈B.blk F Z gr->x<w.heap.size:=by
 intro x hx;simp only [DB.blk,ρ,τ] at hx;rcases hx with rfl|rfl|hx|hx
 ·exact h.head.lt
 ·exact h.lJ.lt
 ·exact h.cells.lt x hx
 ·exact h.lJ.Jl x hx
theorem vS.h0 (h:vS w B F Z gr cr A st ptr G L):w.cell? ⟨B.n0,0,none⟩=some (.pointer (some ⟨B.c,0,none⟩)):=h.head.cellAt 0 ω rfl
theorem vS.h1 (h:vS w B F Z gr cr A st ptr G L):w.cell? ⟨B.n0,1,none⟩=some (.int .i64 (B.d:Int)):=h.head.cellAt 1 ω rfl
theorem vS.h2 (h:vS w B F Z gr cr A st ptr G L):w.cell? ⟨B.n0,2,none⟩=some (.slice (some ⟨gr,0,none⟩) A.hs.length cr):=h.head.cellAt 2 ω rfl
theorem vS.dB {w':World} {F':List Nat} {A':NS} {st':Nat} (h:vS w B F Z gr cr A st ptr G L) (hu:aa F w w') (hC:aG w' B.c F' A' st') (hF:∀x,x∈F'->x∈F\/w.heap.size<=x) (h2:A'.hs=A.hs):vS w' B F' Z gr cr A' st' ptr G L:=by
 have f:=h.bI;have g:=h.lt;have hf:∀x,x<w.heap.size->x∉F->x∉F':=fun x hx hn hm=>by rcases hF x hm with h'|h';exact hn h';omega
 have l0:=g B.n0 (by simp [DB.blk]);have l1:=g gr (by simp [DB.blk]);have hh:nC A'=nC A:=funext fun k=>by unfold nC bK;rw [h2]
 exact ⟨by rw [h2];exact h.head.upd hu f.1,hC,by rw [h2,hh];exact h.lJ.upd hu (fun z hz=>⟨fun e=>f.2.1 (by rw [←e];exact hz),fun hm=>(h.lH z hm).1 hz⟩),⟨hf _ l0 f.1,hf _ l1 f.2.1,f.2.2⟩,fun z hz=>⟨hf z (h.lJ.Jl z hz) (h.lH z hz).1,(h.lH z hz).2⟩,h.dd⟩
def UU (B:DB) (F:List Nat) (A:NS) (hc:B.c∈F):ik where
 ty:=170
 p:=B.n0
 rd:=B.n0::F
 wr:=[B.c]
 lt:=fun a b=>decide (cZ A a b)
 dom:=fun x=>bX A (x:Int)=true
 at_:=fun w=>w.cell? ⟨B.n0,0,none⟩=some (.pointer (some ⟨B.c,0,none⟩))/\B.n0∉F/\∃st,aG w B.c F A st
 sub:=fun x hx=>by simp at hx;rw [hx];exact List.mem_cons_of_mem _ hc
 low:=fun h x hx=>by
  obtain ⟨h1,h3,st,h2⟩:=h;rcases ρ.1 hx with e|e
  ·rw [e];exact World.block_lt_of_cell? _ _ h1
  ·exact h2.lt x e
 upd:=fun h hu hS=>by
  obtain ⟨h1,h3,st,h2⟩:=h;exact ⟨hu.kept h1 (fun hm=>hS _ hm σ),h3,st,h2.upd hu (fun x hx hm=>hS x hx (by simp [hm]))⟩
 trans:=fun a b c h1 h2=>decide_eq_true (cz (of_decide_eq_true h1) (of_decide_eq_true h2))
 total:=fun a b h=>by rcases jm (A:=A) h with h|h;exact Or.inl (decide_eq_true h);exact Or.inr (decide_eq_true h)
 asym:=fun a b h=>decide_eq_false (qo (of_decide_eq_true h))
 fn:=174
 recv:=.pointer (some ⟨B.c,0,none⟩)
 ent:=fun _ _=>by kernel_rfl
 VE:=fun h=>Ep _ _ _ h.1
 VN:=Ea _
 ask:=fun {w} x y h hx hy=>by
  obtain ⟨h1,h3,st,h2⟩:=h;refine (fF h2 x y hx hy).mono ?_;rintro e w' ⟨rfl,hC,hu⟩;exact ⟨rfl,⟨hu.kept h1 (fun hm=>h3 (by simp at hm;rw [hm];exact h2.mem)),h3,_,hC⟩,hu⟩
theorem vS.ord (h:vS w B F Z gr cr A st ptr G L):(UU B F A h.cells.mem).at_ w:=⟨h.h0,h.bI.1,st,h.cells⟩
end
def ow (w:World) (B:DB) (F Z:List Nat) (gr:Nat) (A:NS) (st:Nat):Prop:=∃cr ptr G L,vS w B F Z gr cr A st ptr G L/\rE B.d A L
section
variable {w:World} {B:DB} {F Z:List Nat} {gr st:Nat} {A:NS}
theorem ow.upd {w':World} {S:List Nat} (h:ow w B F Z gr A st) (hu:aa S w w') (hS:∀x,x∈S->x∉B.blk F Z gr):ow w' B F Z gr A st:=by
 obtain ⟨cr,ptr,G,L,hM,hI⟩:=h;exact ⟨cr,ptr,G,L,hM.upd hu hS,hI⟩
theorem ow.aA {w':World} (h:ow w B F Z gr A st) (hu:aa [] w w'):ow w' B F Z gr A st:=h.upd hu σ
theorem Ht (h:ow w B F Z gr A st) (g:Nat) (hn:bK A g=true) :
  Calls Tryz.prog 145 #[.pointer (some ⟨B.n0,0,none⟩),.int .i64 (g:Int)] w fun e w'=>e=.returned (.tuple #[.int .i64 (pK (dW A g)),.bool (dW A g).isSome])/\w'=w:=by
 obtain ⟨cr,ptr,G,L,hM,hI⟩:=h;have k:=jN hM.cells g;rw [hn] at k;have h0:=hM.h0;have h2:=hM.h2;obtain ⟨rp,hp,hR⟩:=hM.lJ.row g hn;have hg:=(aT _ _).1 hn;have hc:=hM.lJ.cell ω hp;have Qk:(g:Int)<(A.hs.length:Int):=ω;have hR':mU w rp (G g) B.d (L g):=hR;cases hl:L g with
 | nil=>
  rw [hl] at hR';have ka:=Sa hR';rw [hI.none hn hl];clear hM hI hn hR hR' hp hl
  go_enter Tryz.func145,Tryz.ntmps145
  go_wp2_with (first|(go_at_call 139;(with_reducible refine (k).mono ?_);rintro e w9 ⟨rfl,aM⟩;rw [aM];clear aM w9)|(go_at_call 157;(with_reducible refine (ka).mono ?_);rintro e w9 ⟨rfl,aM⟩;rw [aM];clear aM w9))
  go_ret2;exact ⟨rfl,rfl⟩
 | cons m l=>
  rw [hl] at hR';have ka:=SK hR';rw [hI.first hM.dd.1 hn hl];clear hM hI hn hR hR' hp hl
  go_enter Tryz.func145,Tryz.ntmps145
  go_wp2_with (first|(go_at_call 139;(with_reducible refine (k).mono ?_);rintro e w9 ⟨rfl,aM⟩;rw [aM];clear aM w9)|(go_at_call 157;(with_reducible refine (ka).mono ?_);rintro e w9 ⟨rfl,aM⟩;rw [aM];clear aM w9))
  go_ret2;exact ⟨rfl,rfl⟩
end
def abC (B:HB) (w:World) (rp:Nat) (G L:List Nat):Prop:=∃v,aO w rp 321 2 (QX B v)/\w.ownsRow 0 3 1 v L.length (aU (bJ L))/\G=rp::v.ownBlock.toList/\∀g,v.ownBlock=some g->g≠rp
def pilK (B:HB):RwK:=⟨abC B,fun h hu hS=>by
 obtain ⟨v,h1,h2,rfl,h3⟩:=h;exact ⟨v,h1.upd hu (fun hm=>hS _ hm σ),aF h2 hu (fun k hk hm=>hS k hm (List.mem_cons_of_mem _ (Option.mem_toList.2 hk))),rfl,h3⟩,fun h=>by
 obtain ⟨v,h1,h2,rfl,h3⟩:=h;intro z hz;rcases ρ.1 hz with e|e
 ·rw [e];exact h1.lt
 ·exact (h2.lt z (Option.mem_toList.1 e)).2⟩
structure ShM (w:World) (B:HB) (F Z:List Nat) (gr cr:Nat) (A:NS) (st:Nat) (ptr:Nat->Option Nat) (G L:Nat->List Nat) (T:List Nat):Prop where
 head:aO w B.n0 237 3 (fun j=>[Value.pointer (some ⟨B.c,0,none⟩),.slice (some ⟨gr,0,none⟩) A.hs.length cr,.slice (some ⟨B.ga,0,none⟩) T.length T.length].getD j undef)
 cells:aG w B.c F A st
 lJ:uW (pilK B) 317 w gr cr A.hs.length (nC A) Z ptr G L
 zD:IZ w B.ga T.length (bJ T)
 tl:T.length=A.cs.length
 bI:B.n0∉F/\gr∉F/\B.ga∉F
 sep:B.n0≠gr/\B.ga≠B.n0/\B.ga≠gr
 lH:∀z,z∈Z->z∉F/\z≠B.n0/\z≠B.ga
def HB.blk (B:HB) (F Z:List Nat) (gr:Nat):List Nat:=B.n0::gr::B.ga::(F++Z)
structure SdI (A:NS) (L:Nat->List Nat) (T:List Nat):Prop where
 di:rE 2 A L
 Be:∀h:Nat,bK A h=true->∀j x,(L h)[j]?=some x->T.getD x 0=j
section
variable {w w':World} {B:HB} {F Z:List Nat} {gr cr st:Nat} {A:NS} {ptr:Nat->Option Nat} {G L:Nat->List Nat} {T:List Nat}
theorem ShM.upd {S:List Nat} (h:ShM w B F Z gr cr A st ptr G L T) (hu:aa S w w') (hS:∀x,x∈S->x∉B.blk F Z gr):ShM w' B F Z gr cr A st ptr G L T:=by
 have h1:∀x,x∈B.blk F Z gr->x∉S:=fun x hx hg=>hS x hg hx;exact ⟨h.head.upd hu (h1 _ (by simp [HB.blk])),h.cells.upd hu (fun x hx hm=>hS x hx (by simp [HB.blk,hm])),h.lJ.upd hu (fun z hz=>⟨fun e=>hS z hz (by simp [HB.blk,e]),fun e=>hS z hz (by simp [HB.blk,e])⟩),h.zD.upd hu (h1 _ (by simp [HB.blk])),h.tl,h.bI,h.sep,h.lH⟩
theorem ShM.aA (h:ShM w B F Z gr cr A st ptr G L T) (hu:aa [] w w'):ShM w' B F Z gr cr A st ptr G L T:=h.upd hu σ
theorem ShM.lt (h:ShM w B F Z gr cr A st ptr G L T):∀x,x∈B.blk F Z gr->x<w.heap.size:=by
 intro x hx;simp only [HB.blk,ρ,τ] at hx;rcases hx with rfl|rfl|rfl|hx|hx
 ·exact h.head.lt
 ·exact h.lJ.lt
 ·exact h.zD.lt
 ·exact h.cells.lt x hx
 ·exact h.lJ.Jl x hx
theorem ShM.h0 (h:ShM w B F Z gr cr A st ptr G L T):w.cell? ⟨B.n0,0,none⟩=some (.pointer (some ⟨B.c,0,none⟩)):=h.head.cellAt 0 ω rfl
theorem ShM.h1 (h:ShM w B F Z gr cr A st ptr G L T):w.cell? ⟨B.n0,1,none⟩=some (.slice (some ⟨gr,0,none⟩) A.hs.length cr):=h.head.cellAt 1 ω rfl
theorem ShM.h2 (h:ShM w B F Z gr cr A st ptr G L T):w.cell? ⟨B.n0,2,none⟩=some (.slice (some ⟨B.ga,0,none⟩) T.length T.length):=h.head.cellAt 2 ω rfl
theorem ShM.G5 (h:ShM w B F Z gr cr A st ptr G L T) (j:Nat) (hj:j<T.length):w.cell? ⟨B.ga,j,none⟩=some (.int .i64 ((T.getD j 0:Nat):Int)):=by
 have:=h.zD.cell j (by rw [dI];exact hj);rwa [rX] at this
theorem ShM.dB {F':List Nat} {A':NS} {st':Nat} (h:ShM w B F Z gr cr A st ptr G L T) (hu:aa F w w') (hC:aG w' B.c F' A' st') (hF:∀x,x∈F'->x∈F\/w.heap.size<=x) (h2:A'.hs=A.hs) (h3:A'.cs.length=A.cs.length):ShM w' B F' Z gr cr A' st' ptr G L T:=by
 have f:=h.bI;have g:=h.lt;have hf:∀x,x<w.heap.size->x∉F->x∉F':=fun x hx hn hm=>by rcases hF x hm with h'|h';exact hn h';omega
 have l0:=g B.n0 (by simp [HB.blk]);have l1:=g gr (by simp [HB.blk]);have l2:=g B.ga (by simp [HB.blk]);have hh:nC A'=nC A:=funext fun k=>by unfold nC bK;rw [h2]
 exact ⟨by rw [h2];exact h.head.upd hu f.1,hC,by rw [h2,hh];exact h.lJ.upd hu (fun z hz=>⟨fun e=>f.2.1 (by rw [←e];exact hz),fun hm=>(h.lH z hm).1 hz⟩),h.zD.upd hu f.2.2,by rw [h3];exact h.tl,⟨hf _ l0 f.1,hf _ l1 f.2.1,hf _ l2 f.2.2⟩,h.sep,fun z hz=>⟨hf z (h.lJ.Jl z hz) (h.lH z hz).1,(h.lH z hz).2⟩⟩
theorem ShM.pile (h:ShM w B F Z gr cr A st ptr G L T) {g:Nat} (hg:bK A g=true) (hd:∀y,y∈L g->bX A (y:Int)=true/\y<T.length) (hn:(L g).Nodup) (hpl:∀j x,(L g)[j]?=some x->T.getD x 0=j) :
  ∃rp v,ptr g=some rp/\G g=rp::v.ownBlock.toList/\Eg w B F A rp v (L g) T:=by
 obtain ⟨rp,hp,v,h1,h2,h3,h4⟩:=h.lJ.row g hg;have hz:∀z,z∈rp::v.ownBlock.toList->z∈Z:=fun z hz=>h.lJ.yF g hg z (by rw [h3];exact hz);have hr:=h.lH rp (hz rp σ);have hok:=h.cells.ok.c1;refine ⟨rp,v,hp,h3,h1,h2,h.zD,h.h0,h.h2,⟨st,h.cells⟩,⟨hr.2.2,hr.2.1⟩,fun k hk=>?_,h.sep.2.1,⟨hr.1,h.bI.2.2,h.bI.1⟩,hd,hn,hpl,by rw [h.tl];exact hok⟩;have hk':=h.lH k (hz k (List.mem_cons_of_mem _ (Option.mem_toList.2 hk)));exact ⟨h4 k hk,hk'.2.2,hk'.2.1,hk'.1⟩
theorem ShM.zQ (h:ShM w B F Z gr cr A st ptr G L T) {g rp:Nat} (hg:bK A g=true) (hp:ptr g=some rp) {v':Value} {L' T' S:List Nat} (hu:aa S w w') (hS:∀z,z∈S->z∈G g\/z=B.ga\/z=B.c) (hr:rp∈G g) (hP:Eg w' B F A rp v' L' T') (hl:T'.length=T.length) (hG:∀k,v'.ownBlock=some k->k∈G g\/w.heap.size<=k) :
  ∃st',ShM w' B F (Z++(rp::v'.ownBlock.toList)) gr cr A st' ptr (j3 G g (rp::v'.ownBlock.toList)) (j3 L g L') T':=by
 have qA:=h.cells.mem;have hsl:=h.lt;obtain ⟨st',hC⟩:=hP.OE;have hnc:B.n0≠B.c:=fun e=>h.bI.1 (by rw [e];exact qA);have hSn:B.n0∉S:=fun hm=>by
  rcases hS _ hm with e|e|e
  ·exact (h.lH _ (h.lJ.yF g hg _ e)).2.1 rfl
  ·exact h.sep.2.1 e.symm
  ·exact hnc e
 have Tt:∀z,z∈rp::v'.ownBlock.toList->z∈G g\/w.heap.size<=z:=fun z hz=>by
  rcases ρ.1 hz with e|e
  ·rw [e];exact Or.inl hr
  ·exact hG z (Option.mem_toList.1 e)
 refine ⟨st',⟨?_,hC,h.lJ.one hg hp hu (fun z hz=>?_) ⟨v',hP.hd,hP.own,rfl,fun k hk=>(hP.sg k hk).1⟩ Tt,hP.zD,by rw [hl];exact h.tl,h.bI,h.sep,fun z hz=>?_⟩⟩
 ·rw [hl];exact h.head.upd hu hSn
 ·rcases hS z hz with e|e|e
  ·exact Or.inl e
  ·rw [e];exact Or.inr ⟨h.sep.2.2,fun hm=>(h.lH _ hm).2.2 rfl⟩
  ·rw [e];exact Or.inr ⟨fun e2=>h.bI.2.1 (by rw [←e2];exact qA),fun hm=>(h.lH _ hm).1 qA⟩
 ·rcases τ.1 hz with e|e
  ·exact h.lH z e
  ·rcases Tt z e with e2|e2
   ·exact h.lH z (h.lJ.yF g hg z e2)
   ·exact ⟨fun hm=>by have:=hsl z (by simp [HB.blk,hm]);omega,fun e3=>by have:=hsl B.n0 (by simp [HB.blk]);omega,fun e3=>by have:=hsl B.ga (by simp [HB.blk]);omega⟩
end
def ShAt (w:World) (B:HB) (F Z:List Nat) (gr:Nat) (A:NS) (st:Nat):Prop:=∃cr ptr G L T,ShM w B F Z gr cr A st ptr G L T/\SdI A L T
section
variable {w:World} {B:HB} {F Z:List Nat} {gr st:Nat} {A:NS}
theorem ShAt.upd {w':World} {S:List Nat} (h:ShAt w B F Z gr A st) (hu:aa S w w') (hS:∀x,x∈S->x∉B.blk F Z gr):ShAt w' B F Z gr A st:=by
 obtain ⟨cr,ptr,G,L,T,hM,hI⟩:=h;exact ⟨cr,ptr,G,L,T,hM.upd hu hS,hI⟩
theorem ShAt.aA {w':World} (h:ShAt w B F Z gr A st) (hu:aa [] w w'):ShAt w' B F Z gr A st:=h.upd hu σ
theorem BV (h:ShAt w B F Z gr A st) (g:Nat) (hn:bK A g=true) :
  Calls Tryz.prog 276 #[.pointer (some ⟨B.n0,0,none⟩),.int .i64 (g:Int)] w fun e w'=>e=.returned (.tuple #[.int .i64 (pK (dW A g)),.bool (dW A g).isSome])/\w'=w:=by
 obtain ⟨cr,ptr,G,L,T,hM,hI⟩:=h;have hg:=(aT _ _).1 hn;have hok:=hM.cells.ok;have h1:=hok.h1;have k:=pV hM.cells (g:Int) ω;have h0:=hM.h0;have h2:=hM.h1;obtain ⟨rp,hp,v,r1,r2,r3,r4⟩:=hM.lJ.row g hn;have hc:=hM.lJ.cell ω hp;have Qk:(g:Int)<(A.hs.length:Int):=ω;cases hl:L g with
 | nil=>
  have OG:=hI.di.none hn hl;have hz:=(jT (A:=A) (h:=(g:Int)) ω).1 OG;rw [OG];rw [hz] at k;clear hM hI hn r1 r2 r3 r4 hp hl OG hz hok
  go_enter Tryz.func276,Tryz.ntmps276
  go_wp2_with (first|(go_at_call 142;(with_reducible refine (k).mono ?_);rintro e w9 ⟨rfl,aM⟩;rw [aM];clear aM w9)|fail)
  go_ret2;exact ⟨rfl,rfl⟩
 | cons m l=>
  have OG:=hI.di.first ω hn hl;have hz:¬dZ A (g:Int)=0:=fun e=>by
   have:=(jT (A:=A) (h:=(g:Int)) ω).2 e;rw [OG] at this;cases this
  have hle:=Dt hok (g:Int);rw [OG];rw [hl] at r2;obtain ⟨gs,cap,rfl,_,hgl,hcc,hcap,hcell, -⟩:=gM r2 σ;have c1:w.cell? ⟨rp,1,none⟩=some (.slice (some ⟨gs,0,none⟩) (m::l).length cap):=r1.cellAt 1 ω rfl;have c2:w.cell? ⟨gs,0,none⟩=some (.int .i64 (m:Int)):=hcell 0 _ rfl;have hzb:((dZ A (g:Int):Int) == 0)=false:=ι;have hlp:(0:Int)<((m::l).length:Int):=ι;clear hM hI hn r1 r2 r3 r4 hp hl OG hcell hok hz;generalize dZ A (g:Int)=ln at *;generalize (m::l).length=nl at *
  go_enter Tryz.func276,Tryz.ntmps276
  go_wp2_with (first|(go_at_call 142;(with_reducible refine (k).mono ?_);rintro e w9 ⟨rfl,aM⟩;rw [aM];clear aM w9)|fail)
  go_ret2;exact ⟨rfl,rfl⟩
end
end Go.Proofs.YtklibcncmbofpaaGreat
