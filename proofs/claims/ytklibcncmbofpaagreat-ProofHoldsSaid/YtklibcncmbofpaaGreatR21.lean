/-
  Lemmas for ProofHolds: FbA, FbB, FbC, Fb, Fb2, FbI. Conditions: those of each lemma.
-/
import Derived.Deep.OwnRows
import Derived.Deep.RegionHeldLaw
import Derived.Deep.RegionLaw
import Derived.Test.YtklibcncmbofpaaGreatR02
set_option linter.all false
set_option maxHeartbeats 8000000
set_option maxRecDepth 10000
namespace Go.Proofs.YtklibcncmbofpaaGreat
def Bw(nx:Nat->Nat):List Nat->Nat->Prop
 | [],_=>True
 | x::t,z=>nx x=t.headD z/\Bw nx t z
theorem yh(a b:List Nat)(z:Nat):(a++b).headD z=a.headD (b.headD z):=by cases a<;>rfl
theorem tZ{nx:Nat->Nat}:∀ (a b:List Nat) (z:Nat),Bw nx (a++b) z↔Bw nx a (b.headD z)/\Bw nx b z
 | [],b,z=>by simp[Bw]
 | x::t,b,z=>by
  show(nx x=(t++b).headD z/\Bw nx (t++b) z)↔(nx x=t.headD (b.headD z)/\Bw nx t (b.headD z))/\Bw nx b z
  rw[tZ t b z,yh,and_assoc]
theorem Bw.far{nx nx':Nat->Nat}:∀ {l:List Nat} {z:Nat},Bw nx l z->(∀w,w∈l->nx' w=nx w)->Bw nx' l z
 | [],_,_,_=>trivial
 | x::t,z,h,e=>⟨(e x σ).trans h.1,Bw.far h.2 (fun w hw=>e w (by simp[hw]))⟩
def Ring(nx:Nat->Nat)(l:List Nat):Prop:=l.Nodup/\Bw nx l (l.headD 0)
theorem Ring.nil(nx:Nat->Nat):Ring nx []:=⟨List.nodup_nil,trivial⟩
theorem Ring.nd{nx:Nat->Nat}{l:List Nat}(h:Ring nx l):l.Nodup:=h.1
theorem jd{nx:Nat->Nat}{x:Nat}{t:List Nat}:Ring nx (x::t)↔(x::t).Nodup/\nx x=t.headD x/\Bw nx t x:=Iff.rfl
theorem jB{nx:Nat->Nat}{x:Nat}:Ring nx [x]↔nx x=x:=by
 rw[jd];simp[Bw]
theorem Ring.far{nx nx':Nat->Nat}{l:List Nat}(h:Ring nx l)(e:∀w,w∈l->nx' w=nx w):Ring nx' l:=⟨h.1,h.2.far e⟩
theorem Nq{a b:List Nat}(h:(a++b).Nodup):(b++a).Nodup:=(List.perm_append_comm (l₁:=a) (l₂:=b)).nodup_iff.1 h
theorem Ring.Xi{nx:Nat->Nat}:∀ {a b:List Nat},Ring nx (a++b)->Ring nx (b++a)
 | [],b,h=>by simpa using h
 | a0::a,[],h=>by simpa using h
 | a0::a,b0::b,h=>by
  refine⟨Nq h.1,?_⟩;have h2:=(tZ _ _ _).1 h.2;exact(tZ _ _ _).2 ⟨h2.2,h2.1⟩
def dF(nx:Nat->Nat)(x y:Nat):Nat->Nat:=fun z=>if z=x then nx y else if z=y then nx x else nx z
def jF(nx pv:Nat->Nat)(x y:Nat):Nat->Nat:=fun z=>if z=nx x then y else if z=nx y then x else pv z
theorem jf{nx:Nat->Nat}{x y z:Nat}(h1:z≠x)(h2:z≠y):dF nx x y z=nx z:=by unfold dF;rw[if_neg h1,if_neg h2]
theorem Ring.oD{nx:Nat->Nat}{l:List Nat}(h:Ring nx l){x y:Nat}(h1:x∉l)(h2:y∉l):Ring (dF nx x y) l:=
 h.far (fun w hw=>jf (fun e=>h1 (e▸hw)) (fun e=>h2 (e▸hw)))
theorem Ring.join{nx:Nat->Nat}{x y:Nat}{s t:List Nat}(h:Ring nx (x::s))(k:Ring nx (y::t))(d:∀z,z∈x::s->z∉y::t):Ring (dF nx x y) (x::t++y::s):=by
 obtain⟨n1,e1,r1⟩:=jd.1 h;obtain⟨n2,e2,r2⟩:=jd.1 k;have n1':=List.nodup_cons.1 n1;have n2':=List.nodup_cons.1 n2;have hxy:y≠x:=fun e=>d x σ (by simp[e]);have sx:dF nx x y x=nx y:=by unfold dF;rw[if_pos rfl]
 have sy:dF nx x y y=nx x:=by unfold dF;rw[if_neg hxy,if_pos rfl]
 refine jd.2 ⟨?_,?_,?_⟩
 ·have:(x::t++y::s).Perm ((x::s)++(y::t)):=by
   show(x::(t++y::s)).Perm (x::(s++y::t))
   refine List.Perm.cons x ?_;exact(List.perm_middle).trans ((List.Perm.cons y List.perm_append_comm).trans List.perm_middle.symm)
  refine this.nodup_iff.2 (θ.2 ⟨n1,n2,fun a ha b hb e=>?_⟩);subst e;exact d a ha hb
 ·show dF nx x y x=(t++y::s).headD x
  rw[sx,e2,yh];rfl
 ·show Bw (dF nx x y) (t++y::s) x
  refine(tZ _ _ _).2 ⟨?_,?_,?_⟩
  ·exact r2.far (fun w hw=>jf (fun e=>d x σ (by subst e;simp[hw])) (fun e=>n2'.1 (e▸hw)))
  ·rw[sy,e1]
  ·exact r1.far (fun w hw=>jf (fun e=>n1'.1 (e▸hw)) (fun e=>d w (by simp[hw]) (by subst e;simp)))
theorem Ring.cut{nx:Nat->Nat}{x y:Nat}{a b:List Nat}(h:Ring nx (x::a++y::b)):Ring (dF nx x y) (x::b)/\Ring (dF nx x y) (y::a):=by
 have h':Ring nx (x::(a++y::b)):=h;obtain⟨n1,e1,r1⟩:=jd.1 h';have r2:=(tZ _ _ _).1 r1;obtain⟨r3,r4,r5⟩:Bw nx a y/\nx y=b.headD x/\Bw nx b x:=⟨r2.1,r2.2.1,r2.2.2⟩;have n2:=List.nodup_cons.1 n1;have n3:=θ.1 n2.2;have n4:=List.nodup_cons.1 n3.2.1;have hxy:y≠x:=fun e=>n2.1 (by subst e;simp);have sx:dF nx x y x=nx y:=by unfold dF;rw[if_pos rfl]
 have sy:dF nx x y y=nx x:=by unfold dF;rw[if_neg hxy,if_pos rfl]
 have xb:x∉b:=fun hm=>n2.1 (by simp[hm]);have xa:x∉a:=fun hm=>n2.1 (by simp[hm]);have ya:y∉a:=fun hm=>n3.2.2 y hm y σ rfl
 refine⟨jd.2 ⟨List.nodup_cons.2 ⟨xb,n4.2⟩,by rw[sx,r4],r5.far (fun w hw=>jf (fun e=>xb (e▸hw)) (fun e=>n4.1 (e▸hw)))⟩,
  jd.2 ⟨List.nodup_cons.2 ⟨ya,n3.1⟩,?_,r3.far (fun w hw=>jf (fun e=>xa (e▸hw)) (fun e=>ya (e▸hw)))⟩⟩
 rw[sy,e1,yh];rfl
structure Rg(n:Nat)(nx pv:Nat->Nat):Prop where
 nn:∀x,x<n->nx x<n
 pp:∀x,x<n->pv x<n
 pn:∀x,x<n->pv (nx x)=x
 np:∀x,x<n->nx (pv x)=x
section
variable {n:Nat}{nx pv:Nat->Nat}
theorem Rg.inj(h:Rg n nx pv){x y:Nat}(hx:x<n)(hy:y<n)(e:nx x=nx y):x=y:=by
 rw[←h.pn x hx,←h.pn y hy,e]
theorem Rg.swap(h:Rg n nx pv){x y:Nat}(hx:x<n)(hy:y<n):Rg n (dF nx x y) (jF nx pv x y):=by
 refine⟨fun z hz=>?_,fun z hz=>?_,fun z hz=>?_,fun z hz=>?_⟩
 ·unfold dF
  split
  ·exact h.nn y hy
  ·split
   ·exact h.nn x hx
   ·exact h.nn z hz
 ·unfold jF
  split
  ·exact hy
  ·split
   ·exact hx
   ·exact h.pp z hz
 ·unfold dF jF
  by_cases e1:z=x
  ·rw[if_pos e1]
   by_cases e2:nx y=nx x
   ·rw[if_pos e2,e1];exact h.inj hy hx e2
   ·rw[if_neg e2,if_pos rfl,e1]
  ·rw[if_neg e1]
   by_cases e2:z=y
   ·rw[if_pos e2,if_pos rfl,e2]
   ·rw[if_neg e2,if_neg (fun e=>e1 (h.inj hz hx e)),if_neg (fun e=>e2 (h.inj hz hy e))];exact h.pn z hz
 ·unfold dF jF
  by_cases e1:z=nx x
  ·rw[if_pos e1]
   by_cases e2:y=x
   ·rw[if_pos e2,e2,e1]
   ·rw[if_neg e2,if_pos rfl,e1]
  ·rw[if_neg e1]
   by_cases e2:z=nx y
   ·rw[if_pos e2,if_pos rfl,e2]
   ·rw[if_neg e2,if_neg (fun e=>e1 (by rw[←e,h.np z hz])),if_neg (fun e=>e2 (by rw[←e,h.np z hz]))];exact h.np z hz
theorem Rg.last(h:Rg n nx pv){x y:Nat}{a:List Nat}(hr:Ring nx (x::a++[y]))(hy:y<n):pv x=y:=by
 have h':Ring nx (x::(a++[y])):=hr;have r2:=(tZ _ _ _).1 (jd.1 h').2.2;have:nx y=x:=r2.2.1;rw[←this];exact h.pn y hy
theorem Rg.part(h:Rg n nx pv){x:Nat}{l:List Nat}(hr:Ring nx (x::l))(hl:∀z,z∈x::l->z<n):Ring (dF nx x (pv x)) [x]/\Ring (dF nx x (pv x)) l:=by
 have hx:x<n:=hl x σ;rcases List.eq_nil_or_concat l with rfl|⟨a,y,e⟩
 ·have e1:=jB.1 hr;have e2:pv x=x:=by have:=h.pn x hx;rw[e1]at this;exact this
  rw[e2];refine⟨jB.2 ?_,Ring.nil _⟩;unfold dF;rw[if_pos rfl];exact e1
 ·have e':l=a++[y]:=by rw[e,List.concat_eq_append]
  subst e';have hy:y<n:=hl y σ;rw[h.last hr hy];have:=Ring.cut (b:=[]) hr;exact⟨this.1,Ring.Xi (a:=[y]) (b:=a) this.2⟩
end
theorem NK(t:List Nat)(z:Nat):t.headD z=t.getD 0 z:=by cases t<;>rfl
theorem Bw.at{nx:Nat->Nat}:∀ {l:List Nat} {z:Nat},Bw nx l z->∀k (hk:k<l.length),nx l[k]=l.getD (k+1) z
 | [],_,_,k,hk=>by simp at hk
 | x::t,z,h,0,hk=>by
  show nx x=(x::t).getD 1 z
  rw[h.1,NK];simp[φ]
 | x::t,z,h,k+1,hk=>by
  have:=Bw.at h.2 k (by simpa using hk)
  show nx (t[k]'(by simpa using hk))=(x::t).getD (k+1+1) z
  rw[this];simp[φ]
theorem Ring.at{nx:Nat->Nat}{x:Nat}{t:List Nat}(h:Ring nx (x::t))(k:Nat)(hk:k<(x::t).length):nx (x::t)[k]=(x::t).getD (k+1) x:=Bw.at h.2 k hk
theorem jy:∀ (n:Nat) (l:List Nat),l.Nodup->(∀x,x∈l->x<n)->l.length<=n
 | 0,l,_,h=>by
  cases l with
  | nil=>simp
  | cons x t=>have:=h x σ;omega
 | n+1,l,hd,h=>by
  by_cases hm:n∈l
  ·have h1:=jy n (l.erase n) (hd.erase n) (fun x hx=>by
    have h2:=(List.Nodup.mem_erase_iff hd).1 hx;have:=h x h2.2
    omega)
   rw[List.length_erase_of_mem hm]at h1;omega
  ·have:=jy n l hd (fun x hx=>by
    have:=h x hx;have:x≠n:=fun e=>hm (e▸hx)
    omega)
   omega
def pX(l:List Nat):List Int:=l.map (fun x:Nat=>(x:Int))
theorem mU(l:List Nat):(pX l).length=l.length:=by unfold pX;simp
theorem RU(a b:List Nat):pX (a++b)=pX a++pX b:=by unfold pX;simp
end Go.Proofs.YtklibcncmbofpaaGreat
namespace Go.Proofs.YtklibcncmbofpaaGreat
open Go Go.RowKit
structure yH(w:World)(br bn bp n:Nat)(nx pv:Nat->Nat):Prop where
 head:aL w br 254 2 (fun j=>[Value.slice (some ⟨bn,0,none⟩) n n,.slice (some ⟨bp,0,none⟩) n n].getD j undef)
 nr:aL w bn 3 n (fun j=>.int .i64 (nx j:Int))
 pr:aL w bp 3 n (fun j=>.int .i64 (pv j:Int))
 ne:br≠bn/\br≠bp/\bn≠bp
 le:n<=65536
 rg:Rg n nx pv
section
variable {w:World}{br bn bp n:Nat}{nx pv:Nat->Nat}
theorem yH.upd{w':World}{F:List Nat}(h:yH w br bn bp n nx pv)(hu:aa F w w')(h1:br∉F)(h2:bn∉F)(h3:bp∉F):yH w' br bn bp n nx pv:=
 ⟨h.head.upd hu h1,h.nr.upd hu h2,h.pr.upd hu h3,h.ne,h.le,h.rg⟩
theorem yH.au{w':World}(h:yH w br bn bp n nx pv)(hu:aa [] w w'):yH w' br bn bp n nx pv:=h.upd hu σ σ σ
theorem yH.h0(h:yH w br bn bp n nx pv):w.cell? ⟨br,0,none⟩=some (.slice (some ⟨bn,0,none⟩) n n):=h.head.cellAt 0 ω rfl
theorem yH.h1(h:yH w br bn bp n nx pv):w.cell? ⟨br,1,none⟩=some (.slice (some ⟨bp,0,none⟩) n n):=h.head.cellAt 1 ω rfl
theorem yH.lt(h:yH w br bn bp n nx pv):br<w.heap.size/\bn<w.heap.size/\bp<w.heap.size:=⟨h.head.lt,h.nr.lt,h.pr.lt⟩
end
theorem NM:(Tryz.prog.info? 3).map (fun i=>(i.zero,i.size,i.bytes))=some (some (.int .i64 0),1,8):=by kernel_rfl
theorem Gh(w:World)(n:Nat):aL (w.alloc (.cells (madeCells #[.int .i64 0] n) 3)) w.heap.size 3 n (fun j=>(madeCells #[.int .i64 0] n).toList.getD j undef):=by
 refine⟨madeCells #[.int .i64 0] n,?_,by simp[madeCells],fun j hj=>?_⟩
 ·show(w.heap.push _)[w.heap.size]?=_;simp
 ·simp[madeCells,φ,hj]
theorem FE(n:Nat)(w:World)(h:n<=65536) :
  Calls Tryz.prog 110 #[.int .i64 (n:Int)] w fun e w'=>∃br bn bp,e=.returned (.tuple #[.pointer (some ⟨br,0,none⟩),.int .i64 0])/\yH w' br bn bp n id id/\aa [] w w'/\w.heap.size<=br/\w.heap.size<=bn/\w.heap.size<=bp:=by
 have hmk:=run_make_row' (P:=Tryz.prog) 26 3 (.int .i64 0) 8 Tryz.underlying26 NM rfl .i64 .i64 n ω ω
 go_enter Tryz.func110,Tryz.ntmps110
 go_wp2
 go_region
 all_goals
  go_wp2
  go_loopw [19] (fun i wr=>∃ (bn bp k:Nat) (f g:Nat->Value),k<=n/\i=.int .i64 k/\aL wr (w.heap.size+1+1) 254 2 (fun j=>[Value.slice (some ⟨bn,0,none⟩) n n,.slice (some ⟨bp,0,none⟩) n n].getD j undef)/\
   aL wr bn 3 n f/\aL wr bp 3 n g/\(∀j,j<k->f j=.int .i64 (j:Int)/\g j=.int .i64 (j:Int))/\(w.heap.size<=bn/\w.heap.size<=bp/\bn≠bp/\bn<w.heap.size+1+1/\bp<w.heap.size+1+1)/\aa [] w wr) (fun i _=>n-(intOf i).toNat)
  case atStart=>
   have r0:=Gh w n;have r1:=Gh (w.alloc (.cells (madeCells #[.int .i64 0] n) 3)) n;rw[World.size_alloc]at r1;have rh:=fun v1 v2=>dP ((w.alloc (.cells (madeCells #[.int .i64 0] n) 3)).alloc (.cells (madeCells #[.int .i64 0] n) 3)) [v1,v2] 254;simp only[World.size_alloc]at rh
   first
    | exact⟨w.heap.size,w.heap.size+1,0,_,_,ω,rfl,(rh _ _).drew,((r0.alloc _).alloc _).drew,(r1.alloc _).drew,ω,ω,β⟩
    | exact⟨w.heap.size+1,w.heap.size,0,_,_,ω,rfl,(rh _ _).drew,(r1.alloc _).drew,((r0.alloc _).alloc _).drew,ω,ω,β⟩
  case round=>
   obtain⟨bn,bp,k,f,g,hk,rfl,hH,hN,hP,hf,hb,hu⟩:=hrel;rename World=>wr
   by_cases hkn:k<n
   ·have c0:=hH.cellAt 0 ω rfl;have c1:=hH.cellAt 1 ω rfl;have d0:=hN.cell k hkn;have d1:=hP.cell k hkn;have e0:=hN.free k;have e1:=hP.free k;have hkI:(k:Int)<(n:Int):=ω;obtain⟨b1,b2,b3,b4,b5⟩:=hb;have HF:=χ (ψ hf (ψ hH (ψ hN (ψ hP hu))));clear hf hH hN hP hu hmk;go_wp2
    go_region
    all_goals
     go_wp2
     go_roundw
     case rel=>
      obtain⟨hf,hH,hN,hP,hu⟩:=HF.out;refine⟨bn,bp,k+1,_,_,ω,by go_num,(hH.far _ _ ζ).far _ _ ζ,(hN.set _ _).far _ _ ζ,(hP.far _ _ ζ).set _ _,fun j hj=>?_,⟨b1,b2,b3,b4,b5⟩,((hu.setCell (Or.inr (by simpa using b1)) _).setCell (Or.inr (by simpa using b2)) _).drew⟩
      by_cases e:j=k
      ·subst e;simp
      ·simp only[if_neg e];exact hf j ω
     case measure=>simp[intOf];omega
   ·obtain rfl:k=n:=ω;go_wp2;go_ret2;exact⟨_,bn,bp,rfl,⟨hH,hN.ext (fun j hj=>(hf j hj).1),hP.ext (fun j hj=>(hf j hj).2),ω,h,⟨fun x hx=>hx,fun x hx=>hx,fun _ _=>rfl,fun _ _=>rfl⟩⟩,hu,ω,ω,ω⟩
theorem Sj{w:World}{br bn bp n:Nat}{nx pv:Nat->Nat}(h:yH w br bn bp n nx pv)(x:Int)(b:Bool)(hb:b=decide (0<=x/\x<n)) :
  Calls Tryz.prog 234 #[.pointer (some ⟨br,0,none⟩),.int .i64 x] w fun e w'=>e=.returned (.bool b)/\w'=w:=by
 have hle:=h.le;have c0:=h.h0;clear h;rw[hb]
 by_cases h0:0<=x
 ·by_cases h1:x<n
  ·go_enter Tryz.func234,Tryz.ntmps234
   go_wp2;go_ret;exact⟨aT (by simp[h0,h1]),rfl⟩
  ·go_enter Tryz.func234,Tryz.ntmps234
   go_wp2;go_ret;exact⟨aT (by simp[h0,h1]),rfl⟩
 ·go_enter Tryz.func234,Tryz.ntmps234
  go_wp2;go_ret;exact⟨aT ζ,rfl⟩
section
variable {w:World}{br bn bp n:Nat}{nx pv:Nat->Nat}
theorem sP(h:yH w br bn bp n nx pv){x:Nat}(hx:x<n):Calls Tryz.prog 234 #[.pointer (some ⟨br,0,none⟩),.int .i64 (x:Int)] w fun e w'=>e=.returned (.bool true)/\w'=w:=
 Sj h x true ζ
theorem CL(h:yH w br bn bp n nx pv){x:Nat}(hx:x<n):Calls Tryz.prog 236 #[.pointer (some ⟨br,0,none⟩),.int .i64 (x:Int)] w fun e w'=>e=.returned (.tuple #[.int .i64 (nx x:Int),.bool true])/\w'=w:=by
 have hle:=h.le;have c0:=h.h0;have c1:=h.nr.cell x hx;have kh:=sP h hx;have BN:(x:Int)<(n:Int):=ω;clear h
 go_enter Tryz.func236,Tryz.ntmps236
 go_wp2_with ((go_at_call 234;(with_reducible refine(kh).mono ?_);rintro e w9 ⟨rfl,aJ⟩;rw[aJ];clear aJ w9))
 go_ret2;exact⟨rfl,rfl⟩
theorem Ag(nx:Nat->Nat)(x y j:Nat):(if j=y then Value.int .i64 (nx x:Int)else if j=x then Value.int .i64 (nx y:Int)else Value.int .i64 (nx j:Int))=.int .i64 (dF nx x y j:Int):=by
 unfold dF
 by_cases e1:j=y
 ·rw[if_pos e1]
  by_cases e2:j=x
  ·rw[if_pos e2,←e1,e2]
  ·rw[if_neg e2,if_pos e1]
 ·rw[if_neg e1]
  by_cases e2:j=x
  ·rw[if_pos e2,if_pos e2]
  ·rw[if_neg e2,if_neg e2,if_neg e1]
theorem AO(nx pv:Nat->Nat)(x y j:Nat):(if j=nx x then Value.int .i64 (y:Int)else if j=nx y then Value.int .i64 (x:Int)else Value.int .i64 (pv j:Int))=.int .i64 (jF nx pv x y j:Int):=by
 unfold jF
 split
 ·rfl
 ·split<;>rfl
theorem kX(h:yH w br bn bp n nx pv){x y:Nat}(hx:x<n)(hy:y<n):Calls Tryz.prog 233 #[.pointer (some ⟨br,0,none⟩),.int .i64 (x:Int),.int .i64 (y:Int)] w fun e w'=>
  e=.returned (.bool true)/\yH w' br bn bp n (dF nx x y) (jF nx pv x y)/\aa [bn,bp] w w':=by
 have hle:=h.le;have c0:=h.h0;have c1:=h.h1;have d0:=h.nr.cell x hx;have d1:=h.nr.cell y hy;have f0:=h.nr.free x;have f1:=h.nr.free y;have ha:=h.rg.nn x hx;have hb:=h.rg.nn y hy;have e0:=h.pr.cell (nx x) ha;have e1:=h.pr.cell (nx y) hb;have g0:=h.pr.free (nx x);have g1:=h.pr.free (nx y);have kx:=sP h hx;have ky:=sP h hy;obtain⟨n1,n2,n3⟩:=h.ne;obtain⟨l1,l2,l3⟩:=h.lt;have i1:(x:Int)<(n:Int):=ω;have i2:(y:Int)<(n:Int):=ω;have i3:(nx x:Int)<(n:Int):=ω;have i4:(nx y:Int)<(n:Int):=ω;have H:=χ h;clear h;generalize ea:nx x=a at *;generalize eb:nx y=b at *
 by_cases hxy:x=y
 ·subst hxy;rw[ea]at eb;subst eb
  go_enter Tryz.func233,Tryz.ntmps233
  go_wp2_with (first
   | (go_at_call 234;(with_reducible refine(kx).mono ?_);rintro e w9 ⟨rfl,aJ⟩;rw[aJ];clear aJ w9)
   | fail)
  go_region
  go_wp2
  go_region
  go_wp2
  go_region
  go_wp2;go_ret;have h:=H.out;refine⟨rfl,⟨((((h.head.far _ _ n1).far _ _ n1).far _ _ n2).far _ _ n2),((((h.nr.set _ _).set _ _).far _ _ n3).far _ _ n3).ext (fun j hj=>?_),((((h.pr.far _ _ (Ne.symm n3)).far _ _ (Ne.symm n3)).set _ _).set _ _).ext (fun j hj=>?_),h.ne,h.le,h.rg.swap hx hy⟩,ν⟩
  ·have:=Ag nx x x j;rw[ea]at this;exact this
  ·have:=AO nx pv x x j;rw[ea]at this;exact this
 ·have hyx:y≠x:=fun e=>hxy e.symm;have hab:a≠b:=fun e=>hxy (H.out.rg.inj hx hy (by rw[ea,eb,e]))
  go_enter Tryz.func233,Tryz.ntmps233
  go_wp2_with (first
   | (go_at_call 234;(with_reducible refine(kx).mono ?_);rintro e w9 ⟨rfl,aJ⟩;rw[aJ];clear aJ w9)
   | (go_at_call 234;(with_reducible refine(ky).mono ?_);rintro e w9 ⟨rfl,aJ⟩;rw[aJ];clear aJ w9)
   | fail)
  go_region
  go_wp2
  go_region
  go_wp2
  go_region
  go_wp2;go_ret;have h:=H.out;refine⟨rfl,⟨((((h.head.far _ _ n1).far _ _ n1).far _ _ n2).far _ _ n2),((((h.nr.set _ _).set _ _).far _ _ n3).far _ _ n3).ext (fun j hj=>?_),((((h.pr.far _ _ (Ne.symm n3)).far _ _ (Ne.symm n3)).set _ _).set _ _).ext (fun j hj=>?_),h.ne,h.le,h.rg.swap hx hy⟩,ν⟩
  ·have:=Ag nx x y j;rw[ea,eb]at this;exact this
  ·have:=AO nx pv x y j;rw[ea,eb]at this;exact this
theorem Ck(h:yH w br bn bp n nx pv){x:Nat}(hx:x<n):Calls Tryz.prog 228 #[.pointer (some ⟨br,0,none⟩),.int .i64 (x:Int)] w fun e w'=>
  e=.returned (.bool true)/\yH w' br bn bp n (dF nx x (pv x)) (jF nx pv x (pv x))/\aa [bn,bp] w w':=by
 have hle:=h.le;have c1:=h.h1;have d0:=h.pr.cell x hx;have kx:=sP h hx;have ks:=kX h hx (h.rg.pp x hx);have BN:(x:Int)<(n:Int):=ω;clear h
 go_enter Tryz.func228,Tryz.ntmps228
 go_wp2_with (first
  | (go_at_call 234;(with_reducible refine(kx).mono ?_);rintro e w9 ⟨rfl,aJ⟩;rw[aJ];clear aJ w9)
  | ((go_at_call 233;(with_reducible refine(ks).mono ?_));rintro e w1 ⟨rfl,hR,hu⟩)
  | fail)
 go_ret;exact⟨rfl,hR,hu⟩
theorem IB(h:yH w br bn bp n nx pv){x:Nat}{t:List Nat}(hr:Ring nx (x::t))(hl:∀z,z∈x::t->z<n):Calls Tryz.prog 227 #[.pointer (some ⟨br,0,none⟩),.int .i64 (x:Int)] w fun e w'=>
  ∃v,e=.returned v/\w'.ownsRow w.heap.size 3 1 v (x::t).length (aQ (pX (x::t)))/\aa [] w w':=by
 have hx:x<n:=hl x σ;have hlen:(x::t).length<=n:=jy n (x::t) hr.nd hl;have hle:=h.le;obtain⟨l1,l2,l3⟩:=h.lt;have c0:=h.h0;have d0:=h.nr.cell x hx;have kx:=sP h hx;have BN:(x:Int)<(n:Int):=ω;have e0:=hr.at 0 σ;have hcell:∀ (W:World) (y:Nat),aa [] w W->y<n->W.cell? ⟨bn,y,none⟩=some (.int .i64 (nx y:Int)):=fun W y hW hy=>hW.was (h.nr.cell y hy);have hc0:∀ (W:World),aa [] w W->W.cell? ⟨br,0,none⟩=some (.slice (some ⟨bn,0,none⟩) n n):=fun W hW=>hW.was h.h0;have HR:=χ (ψ hr (ψ hl hcell))
 have ho0:(w.alloc (.cells #[.int .i64 (x:Int)] 3)).ownsRow w.heap.size 3 1 (.slice (some ⟨w.heap.size,0,none⟩) 1 1) 1 [.int .i64 (x:Int)]:=nE w [.int .i64 (x:Int)] 3 w.heap.size 1 1 rfl (Nat.le_refl _) μ;have HO:=χ ho0;clear h hr hl hcell ho0
 go_enter Tryz.func227,Tryz.ntmps227
 go_wp2_with (first
  | (go_at_call 234;(with_reducible refine(kx).mono ?_);rintro e w9 ⟨rfl,aJ⟩;rw[aJ];clear aJ w9)
  | fail)
 go_loopw [5,6] (fun s5 s6 wr=>∃k:Nat,k<(x::t).length/\s6=.int .i64 ((nx ((x::t).getD k 0):Nat):Int)/\wr.ownsRow w.heap.size 3 1 s5 (k+1) (aQ (pX ((x::t).take (k+1))))/\aa [] w wr) (fun s5 _ _=>match s5 with | .slice _ l _=>n-l|_=>0)
 case atStart=>exact⟨0,σ,rfl,HO.out,β⟩
 case round=>
  obtain⟨k,hk,rfl,ho,hu⟩:=hrel;rename World=>wr;obtain⟨a,c,rfl,hc⟩:=bq ho;have hat:=HR.out.1.at k hk;have hgk:(x::t).getD k 0=(x::t)[k]:=by rw[φ,ε hk];rfl
  rw[hgk,hat];have h0:=hc0 wr hu
  by_cases hk1:k+1<(x::t).length
  ·obtain⟨y,hy⟩:∃y,(x::t)[k+1]?=some y:=⟨_,ε hk1⟩;have hg1:(x::t).getD (k+1) x=y:=by rw[φ,hy];rfl
   have hne:y≠x:=fun e=>by
    have hp:=List.pairwise_iff_getElem.1 (List.nodup_iff_pairwise_ne.1 HR.out.1.nd) 0 (k+1) σ hk1 ω;rw[ε hk1]at hy;have h2:(x::t)[k+1]=y:=by injection hy
    exact hp (by rw[h2,e];rfl)
   have hyn:y<n:=HR.out.2.1 _ (List.mem_of_getElem? hy);have e2:(x::t).take (k+1+1)=(x::t).take (k+1)++[y]:=by rw[List.take_add_one,hy];rfl
   have e3:(x::t).getD (k+1) 0=y:=by rw[φ,hy];rfl
   rw[hg1];have HE:=χ (ψ hk1 (ψ e2 (ψ e3 hu)));have hsz:=hu.size;have hkn:k+1<n:=ω;clear hat hgk hg1 e2 e3 hk1 hk hy hlen;have hyI:(y:Int)<(n:Int):=ω;have hyx:((y:Int) == (x:Int))=false:=ζ;have d1:=fun W hW=>HR.out.2.2 W y hW hyn;have HU:=χ hu
   go_wp2_with (first
    | ((at_builtin;refine aX rfl _ _ 26 rfl w.heap.size 3 (.int .i64 0) 1 8 Tryz.underlying26 fF rfl δ _ _ _ rfl (ho) [.int .i64 (y:Int)] rfl (by simp[Value.oneCell']) (by first|rfl|(rw[World.size_alloc];rfl)) μ ω (ω) ?_;intro v2 w2 ho2 hu2 mQ);(have hw2:aa [] w w2:=HU.out.own ho (Nat.le_refl _) hu2);(have q0:=hc0 w2 hw2);(have q1:=d1 w2 hw2))
    | fail)
   obtain⟨hk1,e2,e3,_⟩:=HE.out;obtain⟨a2,c2,rfl,_⟩:=bq ho2;refine⟨⟨k+1,hk1,by rw[e3],?_,hw2⟩,ζ⟩;rw[e2,RU,bM];exact ho2
  ·have hkl:k+1=(x::t).length:=ω;have hg1:(x::t).getD (k+1) x=x:=by rw[φ,List.getElem?_eq_none ω];rfl
   rw[hg1];have e2:(x::t).take (k+1)=x::t:=List.take_of_length_le ω;rw[e2]at ho;have HO2:=χ (ψ ho (ψ hu hkl));clear hat hgk hg1 e2 hk1 hk ho hkl hlen;go_wp2;go_ret;obtain⟨ho,hu,hkl⟩:=HO2.out;exact⟨_,rfl,hkl▸ho,hu⟩
end
end Go.Proofs.YtklibcncmbofpaaGreat
namespace Go.Proofs.YtklibcncmbofpaaGreat
structure FG where
 nx:Nat->Nat
 pv:Nat->Nat
 up:Nat->Int
 mr:Nat->Bool
 K:Nat->List Nat
 R:Nat->List Nat
def FG.none:FG:=⟨id,id,fun _=>-1,fun _=>false,fun _=>[],fun _=>[]⟩
def mG(l:List Nat):Int:=match l with|[]=>-1|x::_=>(x:Int)
def ak{α:Type}(f:Nat->α)(x:Nat)(v:α):Nat->α:=fun z=>if z=x then v else f z
def O7(G:FG)(x y:Nat):FG:={ G with nx:=dF G.nx x y,pv:=jF G.nx G.pv x y }
def prt(G:FG)(x:Nat):FG:=O7 G x (G.pv x)
def wz(lt:Bool)(R l:List Nat):List Nat:=match R with
 | []=>l
 | t::s=>match l with
  | []=>t::s
  | x::r=>if lt then x::s++t::r else t::r++x::s
def iQ(lt:Nat->Nat->Bool)(h:Nat)(l:List Nat)(G:FG):FG:=match G.R h,l with
 | t::s,x::r=>{ O7 G t x with R:=ak G.R h (wz (lt x t) (t::s) (x::r)) }
 | _,l=>{ G with R:=ak G.R h l }
def rV(h:Nat)(G:FG):Nat:=if G.R h=[]then 0 else 1
def dM(G:FG)(y x:Nat):FG:=
 let G1:=match G.K x with|[]=>G|k::_=>O7 G k y
 { G1 with up:=ak G.up y x,mr:=ak G.mr y false,K:=ak G.K x (match G.K x with|[]=>[y]|k::t=>y::(t++[k])) }
def dG(G:FG)(x:Nat):FG:=match G.K x with
 | []=>G
 | k::t=>{ O7 G x k with up:=ak (fun z=>if z∈k::t then -1 else G.up z) x (-1),mr:=ak (fun z=>if z∈k::t then false else G.mr z) x false,K:=ak G.K x [] }
end Go.Proofs.YtklibcncmbofpaaGreat
namespace Go.Proofs.YtklibcncmbofpaaGreat
open Go Go.RowKit
def BL(u k d:Nat->Int)(m:Nat->Bool)(j:Nat):Value:=if j % 4=0 then .int .i64 (u (j / 4))else if j % 4=1 then .int .i64 (k (j / 4))else if j % 4=2 then .int .i64 (d (j / 4))else .bool (m (j / 4))
theorem yP(u k d:Nat->Int)(m:Nat->Bool)(x:Nat):BL u k d m (x*4)=.int .i64 (u x):=by unfold BL;rw[if_pos ω,show x*4 / 4=x by omega]
theorem yR(u k d:Nat->Int)(m:Nat->Bool)(x:Nat):BL u k d m (x*4+1)=.int .i64 (k x):=by unfold BL;rw[if_neg ω,if_pos ω,show(x*4+1) / 4=x by omega]
theorem yO(u k d:Nat->Int)(m:Nat->Bool)(x:Nat):BL u k d m (x*4+2)=.int .i64 (d x):=by unfold BL;rw[if_neg ω,if_neg ω,if_pos ω,show(x*4+2) / 4=x by omega]
theorem yN(u k d:Nat->Int)(m:Nat->Bool)(x:Nat):BL u k d m (x*4+3)=.bool (m x):=by unfold BL;rw[if_neg ω,if_neg ω,if_neg ω,show(x*4+3) / 4=x by omega]
theorem four(j:Nat):∃a,j=a*4\/j=a*4+1\/j=a*4+2\/j=a*4+3:=⟨j / 4,ω⟩
section
variable {w:World}{b m:Nat}{e:TypeId}{u k d:Nat->Int}{mr:Nat->Bool}
theorem tu(h:aL w b e m (BL u k d mr))(x:Nat)(v:Int):aL (w.setCell ⟨b,x*4,none⟩ (.int .i64 v)) b e m (BL (ak u x v) k d mr):=by
 refine(h.set _ _).ext (fun j _=>?_);obtain⟨a,rfl|rfl|rfl|rfl⟩:=four j
 ·rw[yP,yP];unfold ak
  by_cases e:a=x
  ·rw[e,if_pos rfl,if_pos rfl]
  ·rw[if_neg ω,if_neg e]
 ·rw[yR,yR,if_neg ω]
 ·rw[yO,yO,if_neg ω]
 ·rw[yN,yN,if_neg ω]
theorem qp(h:aL w b e m (BL u k d mr))(x:Nat)(v:Int):aL (w.setCell ⟨b,x*4+1,none⟩ (.int .i64 v)) b e m (BL u (ak k x v) d mr):=by
 refine(h.set _ _).ext (fun j _=>?_);obtain⟨a,rfl|rfl|rfl|rfl⟩:=four j
 ·rw[yP,yP,if_neg ω]
 ·rw[yR,yR];unfold ak
  by_cases e:a=x
  ·rw[e,if_pos rfl,if_pos rfl]
  ·rw[if_neg ω,if_neg e]
 ·rw[yO,yO,if_neg ω]
 ·rw[yN,yN,if_neg ω]
theorem sQ(h:aL w b e m (BL u k d mr))(x:Nat)(v:Int):aL (w.setCell ⟨b,x*4+2,none⟩ (.int .i64 v)) b e m (BL u k (ak d x v) mr):=by
 refine(h.set _ _).ext (fun j _=>?_);obtain⟨a,rfl|rfl|rfl|rfl⟩:=four j
 ·rw[yP,yP,if_neg ω]
 ·rw[yR,yR,if_neg ω]
 ·rw[yO,yO];unfold ak
  by_cases e:a=x
  ·rw[e,if_pos rfl,if_pos rfl]
  ·rw[if_neg ω,if_neg e]
 ·rw[yN,yN,if_neg ω]
theorem qj(h:aL w b e m (BL u k d mr))(x:Nat)(v:Bool):aL (w.setCell ⟨b,x*4+3,none⟩ (.bool v)) b e m (BL u k d (ak mr x v)):=by
 refine(h.set _ _).ext (fun j _=>?_);obtain⟨a,rfl|rfl|rfl|rfl⟩:=four j
 ·rw[yP,yP,if_neg ω]
 ·rw[yR,yR,if_neg ω]
 ·rw[yO,yO,if_neg ω]
 ·rw[yN,yN];unfold ak
  by_cases e:a=x
  ·rw[e,if_pos rfl,if_pos rfl]
  ·rw[if_neg ω,if_neg e]
end
theorem EG(K:Nat->List Nat)(x:Nat)(l:List Nat):(fun z=>mG (ak K x l z))=ak (fun z=>mG (K z)) x (mG l):=by
 funext z;unfold ak;split<;>rfl
theorem jZ(K:Nat->List Nat)(x:Nat)(l:List Nat):(fun z=>((ak K x l z).length:Int))=ak (fun z=>((K z).length:Int)) x (l.length:Int):=by
 funext z;unfold ak;split<;>rfl
def oh(G:FG):Nat->Value:=BL G.up (fun x=>mG (G.K x)) (fun x=>((G.K x).length:Int)) G.mr
theorem VE(G:FG)(x:Nat):oh G (x*4)=.int .i64 (G.up x):=yP _ _ _ _ x
theorem Wn(G:FG)(x:Nat):oh G (x*4+1)=.int .i64 (mG (G.K x)):=yR _ _ _ _ x
theorem VJ(G:FG)(x:Nat):oh G (x*4+2)=.int .i64 ((G.K x).length:Int):=yO _ _ _ _ x
theorem VO(G:FG)(x:Nat):oh G (x*4+3)=.bool (G.mr x):=yN _ _ _ _ x
def jo(R:Nat->List Nat)(m:Nat):List Int:=(List.range m).map (fun h=>mG (R h))
theorem uz(R:Nat->List Nat)(m:Nat):(jo R m).length=m:=by unfold jo;simp
theorem MU(R:Nat->List Nat){m h:Nat}(hh:h<m):(jo R m).getD h 0=mG (R h):=by unfold jo;simp[φ,hh]
theorem Pz(R:Nat->List Nat)(m h:Nat)(l:List Nat):(jo R m).set h (mG l)=jo (ak R h l) m:=by
 unfold jo ak;apply List.ext_getElem σ;intro i h1 h2;simp only[List.getElem_set,List.getElem_map,List.getElem_range]
 by_cases e:h=i
 ·subst e;rw[if_pos rfl,if_pos rfl]
 ·rw[if_neg e,if_neg (fun e2=>e e2.symm)]
structure FB where
 n0:Nat
 c:Nat
 br:Nat
 bn:Nat
 bp:Nat
 bl:Nat
structure fD(w:World)(B:FB)(F:List Nat)(gt ct:Nat)(A:NS)(st:Nat)(G:FG):Prop where
 head:aL w B.n0 223 4 (fun j=>[Value.pointer (some ⟨B.c,0,none⟩),.pointer (some ⟨B.br,0,none⟩),.slice (some ⟨B.bl,0,none⟩) A.cs.length A.cs.length,.slice (some ⟨gt,0,none⟩) A.hs.length ct].getD j undef)
 cells:aF w B.c F A st
 rings:yH w B.br B.bn B.bp A.cs.length G.nx G.pv
 pl:aL w B.bl 225 (A.cs.length*4) (oh G)
 aj:IZ w gt ct (jo G.R A.hs.length)
 d1:B.n0∉F/\B.br∉F/\B.bn∉F/\B.bp∉F/\B.bl∉F/\gt∉F
 d2:B.n0≠B.br/\B.n0≠B.bn/\B.n0≠B.bp/\B.n0≠B.bl/\B.n0≠gt
 d3:B.bl≠B.br/\B.bl≠B.bn/\B.bl≠B.bp/\B.bl≠gt/\gt≠B.br/\gt≠B.bn/\gt≠B.bp
def FB.blk(B:FB)(F:List Nat)(gt:Nat):List Nat:=B.n0::B.br::B.bn::B.bp::B.bl::gt::F
section
variable {w:World}{B:FB}{F:List Nat}{gt ct:Nat}{A:NS}{st:Nat}{G:FG}
theorem fD.lt(h:fD w B F gt ct A st G):∀x,x∈B.blk F gt->x<w.heap.size:=by
 intro x hx;have h1:=h.head.lt;have h2:=h.rings.lt;have h3:=h.pl.lt;have h4:=h.aj.lt;simp only[FB.blk,ρ]at hx;rcases hx with rfl|rfl|rfl|rfl|rfl|rfl|hx
 ·exact h1
 ·exact h2.1
 ·exact h2.2.1
 ·exact h2.2.2
 ·exact h3
 ·exact h4
 ·exact h.cells.lt x hx
theorem fD.h0(h:fD w B F gt ct A st G):w.cell? ⟨B.n0,0,none⟩=some (.pointer (some ⟨B.c,0,none⟩)):=h.head.cellAt 0 ω rfl
theorem fD.h1(h:fD w B F gt ct A st G):w.cell? ⟨B.n0,1,none⟩=some (.pointer (some ⟨B.br,0,none⟩)):=h.head.cellAt 1 ω rfl
theorem fD.h2(h:fD w B F gt ct A st G):w.cell? ⟨B.n0,2,none⟩=some (.slice (some ⟨B.bl,0,none⟩) A.cs.length A.cs.length):=h.head.cellAt 2 ω rfl
theorem fD.h3(h:fD w B F gt ct A st G):w.cell? ⟨B.n0,3,none⟩=some (.slice (some ⟨gt,0,none⟩) A.hs.length ct):=h.head.cellAt 3 ω rfl
theorem fD.p0(h:fD w B F gt ct A st G){x:Nat}(hx:x<A.cs.length):w.cell? ⟨B.bl,x*4,none⟩=some (.int .i64 (G.up x)):=h.pl.cellAt _ ω (VE G x)
theorem fD.p1(h:fD w B F gt ct A st G){x:Nat}(hx:x<A.cs.length):w.cell? ⟨B.bl,x*4+1,none⟩=some (.int .i64 (mG (G.K x))):=h.pl.cellAt _ ω (Wn G x)
theorem fD.p2(h:fD w B F gt ct A st G){x:Nat}(hx:x<A.cs.length):w.cell? ⟨B.bl,x*4+2,none⟩=some (.int .i64 ((G.K x).length:Int)):=h.pl.cellAt _ ω (VJ G x)
theorem fD.p3(h:fD w B F gt ct A st G){x:Nat}(hx:x<A.cs.length):w.cell? ⟨B.bl,x*4+3,none⟩=some (.bool (G.mr x)):=h.pl.cellAt _ ω (VO G x)
theorem fD.top(h:fD w B F gt ct A st G){q:Nat}(hq:q<A.hs.length):w.cell? ⟨gt,q,none⟩=some (.int .i64 (mG (G.R q))):=by
 rw[h.aj.cell q (by rw[uz];exact hq),MU _ hq]
theorem fD.cap(h:fD w B F gt ct A st G):A.hs.length<=ct/\ct<=9223372036854775807:=by have:=h.aj.cap;rwa[uz]at this
theorem fD.cn(h:fD w B F gt ct A st G):B.n0≠B.c/\B.br≠B.c/\B.bn≠B.c/\B.bp≠B.c/\B.bl≠B.c/\gt≠B.c:=by
 have hm:=h.cells.mem;exact⟨fun e=>h.d1.1 (e▸hm),fun e=>h.d1.2.1 (e▸hm),fun e=>h.d1.2.2.1 (e▸hm),fun e=>h.d1.2.2.2.1 (e▸hm),fun e=>h.d1.2.2.2.2.1 (e▸hm),fun e=>h.d1.2.2.2.2.2 (e▸hm)⟩
theorem fD.upd{w':World}{S:List Nat}(h:fD w B F gt ct A st G)(hu:aa S w w')(hS:∀x,x∈S->x∉B.blk F gt):fD w' B F gt ct A st G:=by
 have k:∀x,x∈B.blk F gt->x∉S:=fun x hx hs=>hS x hs hx;exact⟨h.head.upd hu (k _ (by simp[FB.blk])),h.cells.upd hu (fun x hx hm=>hS x hx (by simp[FB.blk,hm])),h.rings.upd hu (k _ (by simp[FB.blk])) (k _ (by simp[FB.blk])) (k _ (by simp[FB.blk])),h.pl.upd hu (k _ (by simp[FB.blk])),h.aj.upd hu (k _ (by simp[FB.blk])),h.d1,h.d2,h.d3⟩
theorem fD.au{w':World}(h:fD w B F gt ct A st G)(hu:aa [] w w'):fD w' B F gt ct A st G:=h.upd hu σ
theorem fD.cB{w':World}{F':List Nat}{A':NS}{st':Nat}(h:fD w B F gt ct A st G)(hu:aa F w w')(hC:aF w' B.c F' A' st')(hF:∀x,x∈F'->x∈F\/w.heap.size<=x)(e1:A'.cs.length=A.cs.length)(e2:A'.hs.length=A.hs.length):fD w' B F' gt ct A' st' G:=by
 have f:=h.d1;have g:=h.lt;have hf:∀x,x<w.heap.size->x∉F->x∉F':=fun x hx hn hm=>by rcases hF x hm with h'|h';exact hn h';omega
 have l0:=g B.n0 (by simp[FB.blk]);have l1:=g B.br (by simp[FB.blk]);have l2:=g B.bn (by simp[FB.blk]);have l3:=g B.bp (by simp[FB.blk]);have l4:=g B.bl (by simp[FB.blk]);have l5:=g gt (by simp[FB.blk]);exact⟨by rw[e1,e2];exact h.head.upd hu f.1,hC,by rw[e1];exact h.rings.upd hu f.2.1 f.2.2.1 f.2.2.2.1,by rw[e1];exact h.pl.upd hu f.2.2.2.2.1,by rw[e2];exact h.aj.upd hu f.2.2.2.2.2,⟨hf _ l0 f.1,hf _ l1 f.2.1,hf _ l2 f.2.2.1,hf _ l3 f.2.2.2.1,hf _ l4 f.2.2.2.2.1,hf _ l5 f.2.2.2.2.2⟩,h.d2,h.d3⟩
theorem fD.setSt{w':World}{st':Nat}(h:fD w B F gt ct A st G)(hu:aa [B.c] w w')(hC:aF w' B.c F A st'):fD w' B F gt ct A st' G:=
 h.cB (hu.mono (fun x hx=>by simp at hx;rw[hx];exact h.cells.mem)) hC (fun x hx=>Or.inl hx) rfl rfl
theorem fD.dA{w':World}{nx pv:Nat->Nat}(h:fD w B F gt ct A st G)(hu:aa [B.bn,B.bp] w w')(hR:yH w' B.br B.bn B.bp A.cs.length nx pv):fD w' B F gt ct A st { G with nx:=nx,pv:=pv }:=by
 obtain⟨f1,f2,f3,f4,f5,f6⟩:=h.d1;obtain⟨e1,e2,e3,e4,e5⟩:=h.d2;obtain⟨g1,g2,g3,g4,g5,g6,g7⟩:=h.d3;have m:∀x,x≠B.bn->x≠B.bp->x∉[B.bn,B.bp]:=fun x h1 h2=>by simp[h1,h2]
 exact⟨h.head.upd hu (m _ e2 e3),h.cells.upd hu (fun x hx hm=>by simp at hx;rcases hx with rfl|rfl;exact f3 hm;exact f4 hm),hR,h.pl.upd hu (m _ g2 g3),h.aj.upd hu (m _ g6 g7),h.d1,h.d2,h.d3⟩
theorem fD.KX{w':World}{up:Nat->Int}{mr:Nat->Bool}{K:Nat->List Nat}(h:fD w B F gt ct A st G)(hu:aa [B.bl] w w')(hP:aL w' B.bl 225 (A.cs.length*4) (oh { G with up:=up,mr:=mr,K:=K })):fD w' B F gt ct A st { G with up:=up,mr:=mr,K:=K }:=by
 obtain⟨f1,f2,f3,f4,f5,f6⟩:=h.d1;obtain⟨e1,e2,e3,e4,e5⟩:=h.d2;obtain⟨g1,g2,g3,g4,g5,g6,g7⟩:=h.d3;have m:∀x,x≠B.bl->x∉[B.bl]:=fun x h1=>by simp[h1]
 exact⟨h.head.upd hu (m _ e4),h.cells.upd hu (fun x hx hm=>by simp at hx;subst hx;exact f5 hm),h.rings.upd hu (m _ (Ne.symm g1)) (m _ (Ne.symm g2)) (m _ (Ne.symm g3)),hP,h.aj.upd hu (m _ (Ne.symm g4)),h.d1,h.d2,h.d3⟩
theorem fD.iO(h:fD w B F gt ct A st G)(q:Nat)(l:List Nat):fD (w.setCell ⟨gt,q,none⟩ (.int .i64 (mG l))) B F gt ct A st { G with R:=ak G.R q l }:=by
 obtain⟨f1,f2,f3,f4,f5,f6⟩:=h.d1;obtain⟨e1,e2,e3,e4,e5⟩:=h.d2;obtain⟨g1,g2,g3,g4,g5,g6,g7⟩:=h.d3;have hu:aa [gt] w (w.setCell ⟨gt,q,none⟩ (.int .i64 (mG l))):=(aa.refl _ _).setCell (Or.inl σ) _;have m:∀x,x≠gt->x∉[gt]:=fun x h1=>by simp[h1]
 refine⟨h.head.upd hu (m _ e5),h.cells.upd hu (fun x hx hm=>by simp at hx;subst hx;exact f6 hm),h.rings.upd hu (m _ (Ne.symm g5)) (m _ (Ne.symm g6)) (m _ (Ne.symm g7)),h.pl.upd hu (m _ g4),?_,h.d1,h.d2,h.d3⟩;have:=h.aj.set q (mG l);rwa[Pz]at this
theorem fD.drewN(h:fD w B F gt ct A st G)(k:Nat):fD (w.drewN k) B F gt ct A st G:=h.au ((aa.refl [] w).drewN k)
end
theorem Bg(w:World):Calls Tryz.prog 111 #[] w fun e w'=>e=.returned (.agg #[.int .i64 (-1),.int .i64 (-1),.int .i64 0,.bool false])/\aa [] w w':=by
 go_enter Tryz.func111,Tryz.ntmps111
 go_wp2;exact bodyPost_ret (v:=.agg #[.int .i64 (-1),.int .i64 (-1),.int .i64 0,.bool false]) (by simp[results,Tryz.results111,go_sem]) rfl ⟨rfl,(aa.refl _ _).alloc _⟩
section
variable {w:World}{B:FB}{F:List Nat}{gt ct:Nat}{A:NS}{st:Nat}{G:FG}
theorem JR(R:Nat->List Nat)(m h:Nat)(l:List Nat)(e:mG l=mG (R h)):jo (ak R h l) m=jo R m:=by
 unfold jo ak;refine List.map_congr_left (fun i _=>?_)
 by_cases hi:i=h
 ·rw[if_pos hi,e,hi]
 ·rw[if_neg hi]
theorem fD.TV(h:fD w B F gt ct A st G)(q:Nat)(l:List Nat)(e:mG l=mG (G.R q)):fD w B F gt ct A st { G with R:=ak G.R q l }:=
 ⟨h.head,h.cells,h.rings,h.pl,by rw[JR G.R _ q l e];exact h.aj,h.d1,h.d2,h.d3⟩
theorem Cj(M:fD w B F gt ct A st G){q x:Nat}(r:List Nat)(hq:q<A.hs.length)(hx:bS A (x:Int)=true)(ht:∀t s,G.R q=t::s->bS A (t:Int)=true) :
  Calls Tryz.prog 230 #[.pointer (some ⟨B.n0,0,none⟩),.int .i64 (q:Int),.int .i64 (x:Int)] w fun e w'=>e=.returned (.tuple #[])/\
   fD w' B F gt ct A (bT st (rV q G)) (iQ (fun a b=>decide (bZ A a b)) q (x::r) G)/\aa [B.c,B.bn,B.bp,gt] w w':=by
 have hst:=M.cells.pF;have h3:=M.h3;have ht0:=M.top hq;have hf0:=M.aj.free q;have hcap:=M.cap;have hqI:(q:Int)<(A.hs.length:Int):=ω;have hqb:q<65537:=by have:=M.cells.ok.h1;omega
 have hlb:=M.cells.ok.h1;cases hR:G.R q with
 | nil=>
  rw[hR]at ht0;have eq:rV q G=0:=by unfold rV;rw[if_pos hR]
  have eg:iQ (fun a b=>decide (bZ A a b)) q (x::r) G={ G with R:=ak G.R q (x::r) }:=by unfold iQ;rw[hR]
  rw[eq,eg,gK hst];have HM:=χ (M.iO q (x::r));have hgl:=M.lt gt (by simp[FB.blk]);clear M hR eq eg hx ht;unfold mG at ht0;generalize Yl:A.hs.length=hl at *
  go_enter Tryz.func230,Tryz.ntmps230
  go_wp2;refine bodyPost_ret (v:=.tuple #[]) (by simp[results,Tryz.results230,go_sem]) rfl ?_;exact⟨rfl,HM.out,(aa.refl _ _).setCell (Or.inl σ) _⟩
 | cons t s=>
  have htt:=ht t s hR;obtain⟨hx1,hx2⟩:=(ah _ _).1 hx;obtain⟨ht1,ht2⟩:=(ah _ _).1 htt;rw[hR]at ht0;have eq:rV q G=1:=by unfold rV;rw[if_neg (by rw[hR];simp)]
  have eg:iQ (fun a b=>decide (bZ A a b)) q (x::r) G={ O7 G t x with R:=ak G.R q (wz (decide (bZ A x t)) (t::s) (x::r)) }:=by unfold iQ;rw[hR]
  rw[eq,eg];have ks:=fun W (hW:aa [] w W)=>kX (M.rings.au hW) ht1 hx1;obtain⟨g1,g2,g3,g4,g5,g6,g7⟩:=M.d3;obtain⟨e1,e2,e3,e4,e5⟩:=M.d2;have m:∀x,x≠B.bn->x≠B.bp->x∉[B.bn,B.bp]:=fun x h1 h2=>by simp[h1,h2]
  have r1:∀W,aa [B.bn,B.bp] w W->W.cell? ⟨B.n0,1,none⟩=some (.pointer (some ⟨B.br,0,none⟩)):=fun W hW=>hW.kept M.h1 (m _ e2 e3);have r3:∀W,aa [B.bn,B.bp] w W->W.cell? ⟨B.n0,3,none⟩=some (.slice (some ⟨gt,0,none⟩) A.hs.length ct):=fun W hW=>hW.kept M.h3 (m _ e2 e3);have rt:∀W,aa [B.bn,B.bp] w W->W.cell? ⟨gt,q,none⟩=some (.int .i64 (t:Int)):=fun W hW=>hW.kept ht0 (m _ g6 g7);have ht0':w.cell? ⟨gt,q,none⟩=some (.int .i64 (t:Int)):=ht0;have htn:((t:Int) == -1)=false:=σ;have HM:=χ M;have HR:=χ hR;clear M hR eq eg ht ht0;generalize Yl:A.hs.length=hl at *
  go_enter Tryz.func230,Tryz.ntmps230
  go_wp2
  go_region_held3 (aa [B.bn,B.bp] w) (exact ν)
   (first
    | ((go_at_call 233;(with_reducible refine(ks _ β).mono ?_));rintro e w1 ⟨rfl,Gd,hu1⟩;(have hu2:aa [B.bn,B.bp] w w1:=aa.trans ν hu1)))
  have hM1:=HM.out.dA hu2 Gd;have kc:=fun W (hW:aa [] w1 W)=>fA (hM1.cells.au hW) x t hx htt;have c1:=hM1.cn;have mc:∀x,x≠B.c->x∉[B.c]:=fun x h1=>by simp[h1]
  have r0:∀W,aa [B.c] w1 W->W.cell? ⟨B.n0,0,none⟩=some (.pointer (some ⟨B.c,0,none⟩)):=fun W hW=>hW.kept hM1.h0 (mc _ c1.1);have r3':∀W,aa [B.c] w1 W->W.cell? ⟨B.n0,3,none⟩=some (.slice (some ⟨gt,0,none⟩) hl ct):=fun W hW=>by rw[←Yl];exact hW.kept hM1.h3 (mc _ c1.1)
  have rt':∀W,aa [B.c] w1 W->W.cell? ⟨gt,q,none⟩=some (.int .i64 (t:Int)):=fun W hW=>hW.kept (rt _ hu2) (mc _ c1.2.2.2.2.2);have rf':∀W,aa [B.c] w1 W->W.frozen? ⟨gt,q,none⟩=false:=fun W hW=>hW.aS (rt _ hu2) (mc _ c1.2.2.2.2.2) (hu2.aS ht0' (m _ g6 g7) hf0);have jT:=χ (ψ hM1 hu2);clear hM1 ks r1 r3 rt ht0' hu2 Gd hu1 HM hf0;obtain⟨b,hb⟩:∃b,decide (bZ A x t)=b:=⟨_,rfl⟩;rw[hb]at kc;have HBB:=χ hb;clear hb;go_wp2
  go_region_held3 (aa [B.c] w1) (exact ν)
   (first
    | ((go_at_call 174;(with_reducible refine(kc _ β).mono ?_));rintro e w2 ⟨rfl,hC2,hu3⟩;(have gX:aa [B.c] w1 w2:=aa.trans ν hu3)))
  have d0:=r0 _ gX;have d3:=r3' _ gX;have dt:=rt' _ gX;have df:=rf' _ gX;have hM2:=jT.out.1.setSt gX hC2;have hU:aa [B.c,B.bn,B.bp,gt] w w2:=(jT.out.2.mono σ).trans (gX.mono σ);cases b with
  | false=>
   have HF:=χ (ψ hM2 hU);clear hM2 hU r0 r3' rt' rf' kc gX hC2 hu3;go_wp2;go_end0;rw[HBB.out];exact⟨rfl,HF.out.1.TV q (t::r++x::s) (by rw[show({ G with nx:=dF G.nx t x,pv:=jF G.nx G.pv t x }:FG).R q=t::s from HR.out];rfl),HF.out.2⟩
  | true=>
   have HF:=χ (ψ hM2 hU);clear hM2 hU r0 r3' rt' rf' kc gX hC2 hu3;go_wp2;go_end0;rw[HBB.out];exact⟨rfl,HF.out.1.iO q (x::s++t::r),HF.out.2.setCell (Or.inl σ) _⟩
theorem fD.under(M:fD w B F gt ct A st G)(x y:Nat)(l:List Nat)(v d:Int)(hv:v=mG l)(hd:d=(l.length:Int)) :
  fD ((((w.setCell ⟨B.bl,x*4+1,none⟩ (.int .i64 v)).setCell ⟨B.bl,x*4+2,none⟩ (.int .i64 d)).setCell ⟨B.bl,y*4,none⟩ (.int .i64 (x:Int))).setCell ⟨B.bl,y*4+3,none⟩ (.bool false)) B F gt ct A st { G with up:=ak G.up y x,mr:=ak G.mr y false,K:=ak G.K x l }:=by
 refine M.KX ν ?_;unfold oh;simp only[EG,jZ,←hv,←hd];exact qj (tu (sQ (qp M.pl x v) x d) y x) y false
theorem zV(M:fD w B F gt ct A st G){x y:Nat}(hx:x<A.cs.length)(hy:y<A.cs.length)(hk:∀k t,G.K x=k::t->k<A.cs.length)(hl:(G.K x).length<=65536) :
  Calls Tryz.prog 235 #[.pointer (some ⟨B.n0,0,none⟩),.int .i64 (y:Int),.int .i64 (x:Int)] w fun e w'=>e=.returned (.tuple #[])/\
   fD w' B F gt ct A st (dM G y x)/\aa [B.bn,B.bp,B.bl] w w':=by
 have hc1:=M.cells.ok.c1;have h2:=M.h2;have BN:(x:Int)<(A.cs.length:Int):=ω;have hyI:(y:Int)<(A.cs.length:Int):=ω;have Lt:=M.p1 hx;have Yz:=M.p2 hx;have py0:=M.p0 hy;have py3:=M.p3 hy;have fx1:=M.pl.free (x*4+1);have fx2:=M.pl.free (x*4+2);have fy0:=M.pl.free (y*4);have fy3:=M.pl.free (y*4+3);have hw1:IntKind.i64.wrap (((G.K x).length:Int)+1)=((G.K x).length:Int)+1:=IntWalk.i64_in _ ω;cases hK:G.K x with
 | nil=>
  rw[hK]at Lt Yz hw1;unfold mG at Lt;have eg:dM G y x={ G with up:=ak G.up y x,mr:=ak G.mr y false,K:=ak G.K x [y] }:=by unfold dM;rw[hK]
  rw[eg];have HM:=χ M;clear M eg hK hk;generalize hcl:A.cs.length=n at *;simp only[List.length_nil]at Yz hw1
  go_enter Tryz.func235,Tryz.ntmps235
  go_wp2
  go_region
  go_wp2;go_end0;exact⟨rfl,(HM.out.under x y [y] y 1 rfl rfl).drewN 1,ν⟩
 | cons k t=>
  have hkn:=hk k t hK;rw[hK]at Lt Yz hw1 hl;simp only[List.length_cons]at Yz hw1 hl;unfold mG at Lt;have eg:dM G y x={ O7 G k y with up:=ak G.up y x,mr:=ak G.mr y false,K:=ak G.K x (y::(t++[k])) }:=by unfold dM;rw[hK]
  rw[eg];have ks:=fun W (hW:aa [] w W)=>kX (M.rings.au hW) hkn hy;obtain⟨g1,g2,g3,g4,g5,g6,g7⟩:=M.d3;obtain⟨e1,e2,e3,e4,e5⟩:=M.d2;have m:∀x,x≠B.bn->x≠B.bp->x∉[B.bn,B.bp]:=fun x h1 h2=>by simp[h1,h2]
  have r1:∀W,aa [B.bn,B.bp] w W->W.cell? ⟨B.n0,1,none⟩=some (.pointer (some ⟨B.br,0,none⟩)):=fun W hW=>hW.kept M.h1 (m _ e2 e3);have rx:∀W,aa [B.bn,B.bp] w W->W.cell? ⟨B.bl,x*4+1,none⟩=some (.int .i64 (k:Int)):=fun W hW=>hW.kept Lt (m _ g2 g3);have hkk:((k:Int) == -1)=false:=σ;have HM:=χ M;have hx2:=fun W (hW:aa [B.bn,B.bp] w W)=>hW.kept Yz (m _ g2 g3);have hy0:=fun W (hW:aa [B.bn,B.bp] w W)=>hW.kept py0 (m _ g2 g3);have hy3:=fun W (hW:aa [B.bn,B.bp] w W)=>hW.kept py3 (m _ g2 g3);have hf1:=fun W (hW:aa [B.bn,B.bp] w W)=>hW.aS Lt (m _ g2 g3) fx1
  have hf2:=fun W (hW:aa [B.bn,B.bp] w W)=>hW.aS Yz (m _ g2 g3) fx2;have hg0:=fun W (hW:aa [B.bn,B.bp] w W)=>hW.aS py0 (m _ g2 g3) fy0;have hg3:=fun W (hW:aa [B.bn,B.bp] w W)=>hW.aS py3 (m _ g2 g3) fy3;have px1':w.cell? ⟨B.bl,x*4+1,none⟩=some (.int .i64 (k:Int)):=Lt;have H2:=χ (ψ hx2 (ψ hy0 (ψ hy3 (ψ hf1 (ψ hf2 (ψ hg0 hg3))))));clear M eg hK hk hx2 hy0 hy3 hf1 hf2 hg0 hg3 Lt Yz py0 py3 fx1 fx2 fy0 fy3;generalize hcl:A.cs.length=n at *;generalize htl:t.length=tl at *;have hdz:((tl:Int)+1+1)=(((y::(t++[k])).length:Nat):Int):=by first|(simp[htl];done)|(simp[htl];omega)
  have HDZ:=χ hdz;clear hdz htl
  go_enter Tryz.func235,Tryz.ntmps235
  go_wp2
  go_region
  go_wp2
  go_region_held3 (aa [B.bn,B.bp] w) (exact ν)
   (first
    | ((go_at_call 233;(with_reducible refine(ks _ β).mono ?_));rintro e w1 ⟨rfl,Gd,hu1⟩;(have hu2:aa [B.bn,B.bp] w w1:=aa.trans ν hu1)))
  have q1:=rx _ hu2;obtain⟨q2,q3,q4,q5,q6,q7,q8⟩:=H2.out;have q2:=q2 _ hu2;have q3:=q3 _ hu2;have q4:=q4 _ hu2;have q5:=q5 _ hu2;have q6:=q6 _ hu2;have q7:=q7 _ hu2;have q8:=q8 _ hu2;have hR1':yH w1 B.br B.bn B.bp A.cs.length (dF G.nx k y) (jF G.nx G.pv k y):=by rw[hcl];exact Gd
  have hM1:=HM.out.dA hu2 hR1';have HF:=χ (ψ hM1 hu2);clear hM1 hu2 Gd hR1' hu1 ks r1 rx px1' HM H2;go_wp2;go_end0;have hU:aa [B.bn,B.bp,B.bl] w w1:=HF.out.2.mono (fun z hz=>by simp at hz;rcases hz with rfl|rfl<;>simp);exact⟨rfl,HF.out.1.under x y (y::(t++[k])) y _ rfl HDZ.out,ν⟩
theorem fD.Zp(M:fD w B F gt ct A st G)(x:Nat) :
  fD ((((w.setCell ⟨B.bl,x*4,none⟩ (.int .i64 (-1))).setCell ⟨B.bl,x*4+1,none⟩ (.int .i64 (-1))).setCell ⟨B.bl,x*4+2,none⟩ (.int .i64 0)).setCell ⟨B.bl,x*4+3,none⟩ (.bool false)) B F gt ct A st { G with up:=ak G.up x (-1),mr:=ak G.mr x false,K:=ak G.K x [] }:=by
 refine M.KX ν ?_;unfold oh;simp only[EG,jZ];exact qj (sQ (qp (tu M.pl x (-1)) x (-1)) x 0) x false
def Ea(l:List Nat)(up:Nat->Int):Nat->Int:=fun z=>if z∈l then -1 else up z
def DU(l:List Nat)(mr:Nat->Bool):Nat->Bool:=fun z=>if z∈l then false else mr z
theorem SC(l:List Nat)(x:Nat)(up:Nat->Int):ak (Ea l up) x (-1)=Ea (l++[x]) up:=by
 funext z;unfold ak Ea
 by_cases e:z=x
 ·rw[if_pos e,if_pos (by simp[e])]
 ·rw[if_neg e];simp[e]
theorem Ry(l:List Nat)(x:Nat)(mr:Nat->Bool):ak (DU l mr) x false=DU (l++[x]) mr:=by
 funext z;unfold ak DU
 by_cases e:z=x
 ·rw[if_pos e,if_pos (by simp[e])]
 ·rw[if_neg e];simp[e]
theorem Ue(up:Nat->Int):Ea [] up=up:=by funext z;unfold Ea;simp
theorem Tk(mr:Nat->Bool):DU [] mr=mr:=by funext z;unfold DU;simp
theorem KQ(M:fD w B F gt ct A st G){x:Nat}(hx:x<A.cs.length)(hr:Ring G.nx (G.K x))(hk:∀z,z∈G.K x->z<A.cs.length) :
  Calls Tryz.prog 226 #[.pointer (some ⟨B.n0,0,none⟩),.int .i64 (x:Int)] w fun e w'=>e=.returned (.tuple #[])/\
   fD w' B F gt ct A st (dG G x)/\aa [B.bn,B.bp,B.bl] w w':=by
 have hc1:=M.cells.ok.c1;have h2:=M.h2;have BN:(x:Int)<(A.cs.length:Int):=ω;have Lt:=M.p1 hx;cases hK:G.K x with
 | nil=>
  rw[hK]at Lt;unfold mG at Lt;have eg:dG G x=G:=by unfold dG;rw[hK]
  rw[eg];have HM:=χ M;clear M eg hK hk hr;generalize hcl:A.cs.length=n at *
  go_enter Tryz.func226,Tryz.ntmps226
  go_wp2;refine bodyPost_ret (v:=.tuple #[]) (by simp[results,Tryz.results226,go_sem]) rfl ?_;exact⟨rfl,HM.out,aa.refl _ _⟩
 | cons k t=>
  rw[hK]at Lt hr hk;have px1':w.cell? ⟨B.bl,x*4+1,none⟩=some (.int .i64 (k:Int)):=Lt;have eg:dG G x={ O7 G x k with up:=ak (Ea (k::t) G.up) x (-1),mr:=ak (DU (k::t) G.mr) x false,K:=ak G.K x [] }:=by unfold dG;rw[hK];rfl
  rw[eg];have hkk:((k:Int) == -1)=false:=σ;have h1:=M.h1;have kall:=IB M.rings hr hk;have hlen:(k::t).length<=A.cs.length:=jy A.cs.length (k::t) hr.nd hk;have hkn:k<A.cs.length:=hk k σ;have HM:=χ (ψ M hk);clear M eg hK hk Lt hr;generalize hcl:A.cs.length=n at *
  go_enter Tryz.func226,Tryz.ntmps226
  go_wp2_with (first
   | ((go_at_call 227;(with_reducible refine(kall).mono ?_));rintro e w1 ⟨v1,rfl,ho1,hu1⟩;rw[←mU]at ho1;obtain⟨g,cap,rfl,hZ,hb⟩:=IZ.iY ho1 (by simp[pX]);rw[mU]at *)
   | fail)
  obtain⟨g1,g2,g3,g4,g5,g6,g7⟩:=HM.out.1.d3;obtain⟨e1,e2,e3,e4,e5⟩:=HM.out.1.d2;have hlt:=HM.out.1.lt;have lbl:=hlt B.bl (by simp[FB.blk]);have hM1:=HM.out.1.au hu1;have hM1':fD w1 B F gt ct A st { G with up:=Ea ((k::t).take 0) G.up,mr:=DU ((k::t).take 0) G.mr,K:=G.K }:=by rw[List.take_zero,Ue,Tk];exact hM1
  have jT:=χ (ψ hM1' (ψ hu1 hZ));have hgl:=hZ.lt;have hgb:g≠B.bl:=ω;clear hM1 hM1' hu1 hZ ho1 hlt kall h1 h2;have hll:(k::t).length=t.length+1:=rfl;rw[hll]at hlen;generalize htl:t.length=tl at *;obtain⟨len,X0⟩:∃len,tl+1=len:=⟨_,rfl⟩;have hlI:(tl:Int)+1=(len:Int):=ω;rw[X0]at hll hlen⊢;rw[hlI];clear hlI htl X0
  go_loopw [24] (fun s24 wr=>∃j:Nat,j<=len/\s24=.int .i64 (j:Int)/\fD wr B F gt ct A st { G with up:=Ea ((k::t).take j) G.up,mr:=DU ((k::t).take j) G.mr,K:=G.K }/\IZ wr g cap (pX (k::t))/\aa [B.bl] w wr) (fun s24 _=>len-(intOf s24).toNat)
  case atStart=>exact⟨0,ω,rfl,jT.out.1,jT.out.2.2,jT.out.2.1.mono σ⟩
  case round=>
   obtain⟨j,hj,rfl,xG,hZr,hur⟩:=hrel;rename World=>wr
   by_cases hjl:j<len
   ·obtain⟨z,hz⟩:∃z,(k::t)[j]?=some z:=⟨_,ε ω⟩;have hzn:z<n:=hcl▸HM.out.2 z (List.mem_of_getElem? hz);have hc:=hZr.cell j (by rw[mU];omega);have hgz:(pX (k::t)).getD j 0=(z:Int):=by unfold pX;rw[φ,List.getElem?_map,hz];rfl
    rw[hgz]at hc;have q2:=xG.h2;rw[hcl]at q2;have p0:=xG.p0 (x:=z) (by rw[hcl];exact hzn);have p3:=xG.p3 (x:=z) (by rw[hcl];exact hzn);have f0:=xG.pl.free (z*4);have f3:=xG.pl.free (z*4+3);have hzI:(z:Int)<(n:Int):=ω;have XF:(j:Int)<(len:Int):=ω;have hw1:IntKind.i64.wrap ((j:Int)+1)=(j:Int)+1:=IntWalk.i64_in _ ω;have et:(k::t).take (j+1)=(k::t).take j++[z]:=by rw[List.take_add_one,hz];rfl
    have HR:=χ (ψ xG (ψ hZr (ψ hur et)));clear xG hZr hur et hz hgz;go_wp2
    go_region
    go_wp2;obtain⟨xG,hZr,hur,et⟩:=HR.out;refine⟨⟨j+1,ω,by go_num,?_,(hZr.upd ((aa.refl [B.bl] wr).setCell (Or.inl σ) _) (by simpa using hgb)).upd (((aa.refl [B.bl] _).setCell (Or.inl σ) _).drew) (by simpa using hgb),ν⟩,by simp[intOf];omega⟩;rw[et,←SC,←Ry];refine(xG.KX (up:=ak (Ea ((k::t).take j) G.up) z (-1)) (mr:=ak (DU ((k::t).take j) G.mr) z false) (K:=G.K) ν ?_).drewN 1;exact qj (tu xG.pl z (-1)) z false
   ·obtain rfl:j=len:=ω;have et:(k::t).take j=k::t:=List.take_of_length_le ω;rw[et]at xG;have ks:=fun W (hW:aa [] wr W)=>kX (xG.rings.au hW) (x:=x) (y:=k) (by rw[hcl];exact hx) (by rw[hcl];exact hkn);have q1:=xG.h1;have q2:∀W,aa [B.bn,B.bp] wr W->W.cell? ⟨B.n0,2,none⟩=some (.slice (some ⟨B.bl,0,none⟩) n n):=fun W hW=>by
     have:=hW.kept xG.h2 (by simp;exact⟨e2,e3⟩);rwa[hcl]at this
    have p0:=fun W (hW:aa [B.bn,B.bp] wr W)=>hW.kept (xG.p0 (x:=x) (by rw[hcl];exact hx)) (by simp;exact⟨g2,g3⟩);have p1:=fun W (hW:aa [B.bn,B.bp] wr W)=>hW.kept (xG.p1 (x:=x) (by rw[hcl];exact hx)) (by simp;exact⟨g2,g3⟩);have p2:=fun W (hW:aa [B.bn,B.bp] wr W)=>hW.kept (xG.p2 (x:=x) (by rw[hcl];exact hx)) (by simp;exact⟨g2,g3⟩);have p3:=fun W (hW:aa [B.bn,B.bp] wr W)=>hW.kept (xG.p3 (x:=x) (by rw[hcl];exact hx)) (by simp;exact⟨g2,g3⟩);have HR:=χ (ψ xG (ψ hur (ψ p0 (ψ p1 (ψ p2 p3)))));clear xG hZr hur et p0 p1 p2 p3 HM jT
    go_wp2_with (first
     | ((go_at_call 233;(with_reducible refine(ks _ β).mono ?_));rintro e w2 ⟨rfl,hR2,hu2⟩;(have q3:=q2 _ hu2))
     | fail)
    obtain⟨xG,hur,p0,p1,p2,p3⟩:=HR.out;have p0:=p0 _ hu2;have p1:=p1 _ hu2;have p2:=p2 _ hu2;have p3:=p3 _ hu2;have f0:=(xG.dA hu2 hR2).pl.free (x*4);have f1:=(xG.dA hu2 hR2).pl.free (x*4+1);have f2:=(xG.dA hu2 hR2).pl.free (x*4+2);have f3:=(xG.dA hu2 hR2).pl.free (x*4+3);have hb2:B.bl<w2.heap.size:=(xG.dA hu2 hR2).lt _ (by simp[FB.blk]);have nR:=χ (xG.dA hu2 hR2);have HU:=χ (ψ hur hu2);clear xG hR2 hur hu2 ks q1 q2 HR
    go_region_with (first
     | ((go_at_call 111;(with_reducible refine(Bg _).mono ?_));rintro e w3 ⟨rfl,hu3⟩;(have hv:aa [] w2 w3:=aa.trans β hu3);(have v0:=hv.was p0);(have v1:=hv.was p1);(have v2:=hv.was p2);(have v3:=hv.was p3);(have v4:=hv.was q3);(have z0:=hv.aS p0 σ f0);(have z1:=hv.aS p1 σ f1);(have z2:=hv.aS p2 σ f2);(have z3:=hv.aS p3 σ f3))
     | fail)
    all_goals
     go_wp2;go_end0;have hU:aa [B.bn,B.bp,B.bl] w w3:=((HU.out.1.mono σ).trans (HU.out.2.mono (fun z hz=>by simp at hz;rcases hz with rfl|rfl<;>simp))).trans (hv.mono σ);exact⟨rfl,(nR.out.au hv).Zp x,ν⟩
end
end Go.Proofs.YtklibcncmbofpaaGreat
namespace Go.Proofs.YtklibcncmbofpaaGreat
def few(G:FG)(ex:Nat->Nat)(l:List Nat)(d:Nat):Nat:=(l.filter (fun c=>decide ((G.K c).length+(if G.mr c then 1 else 0)+ex c<d))).length
structure FF(n:Nat)(G:FG)(bN:Nat->Int)(L:Nat->Nat->Prop)(ex:Nat->Nat):Prop where
 rg:Rg n G.nx G.pv
 kid:∀x y,x<n->y∈G.K x->y<n/\G.up y=x
 Gu:∀y,y<n->G.up y=-1\/∃p:Nat,p<n/\G.up y=p/\y∈G.K p
 ring:∀x,x<n->Ring G.nx (G.K x)
 home:∀y p:Nat,y<n->G.up y=p->bN y=bN p/\0<bN y
 ord:∀y p:Nat,y<n->G.up y=p->L p y
 alone:∀y,y<n->¬0<bN y->G.up y=-1/\G.K y=[]/\G.nx y=y
 free:∀y,y<n->G.up y=-1->G.mr y=false
 cnt:∀x d,x<n->few G ex (G.K x) d<=d
structure FR(n:Nat)(G:FG)(bN:Nat->Int)(L:Nat->Nat->Prop)(g:Option Nat):Prop where
 ring:∀h,some h≠g->Ring G.nx (G.R h)
 mem:∀h y:Nat,some h≠g->(y∈G.R h↔1<=h/\y<n/\G.up y=-1/\bN y=h)
 top:∀h t s,some h≠g->G.R h=t::s->∀y,y∈s->L t y
section
variable {n:Nat}{G:FG}{bN:Nat->Int}{L:Nat->Nat->Prop}{ex:Nat->Nat}
theorem FF.OD(H:FF n G bN L ex){x:Nat}(hx:x<n):(G.K x).length<=n:=jy n _ (H.ring x hx).nd (fun y hy=>(H.kid x y hx hy).1)
theorem FF.above(H:FF n G bN L ex){y p:Nat}(hy:y<n)(h:G.up y=p):p<n/\y∈G.K p:=by
 rcases H.Gu y hy with h1|⟨q,hq,h1,h2⟩
 ·omega
 ·obtain rfl:p=q:=ω;exact⟨hq,h2⟩
theorem ZO(G:FG)(ex:Nat->Nat)(l:List Nat)(d:Nat):few G ex l d<=l.length:=List.length_filter_le _ _
theorem Ia(G:FG)(ex:Nat->Nat){l l':List Nat}(h:l.Perm l')(d:Nat):few G ex l d=few G ex l' d:=(h.filter _).length_eq
theorem uI{G G':FG}{ex Yc:Nat->Nat}{l:List Nat}(d:Nat)(h:∀c,c∈l->(G'.K c).length+(if G'.mr c then 1 else 0)+Yc c=(G.K c).length+(if G.mr c then 1 else 0)+ex c):few G' Yc l d=few G ex l d:=by
 unfold few
 congr 1
 exact List.filter_congr (fun c hc=>by rw[h c hc])
theorem Ir{G G':FG}{ex Yc:Nat->Nat}{l:List Nat}(d:Nat)(h:∀c,c∈l->(G.K c).length+(if G.mr c then 1 else 0)+ex c<=(G'.K c).length+(if G'.mr c then 1 else 0)+Yc c):few G' Yc l d<=few G ex l d:=by
 unfold few
 induction l with
 | nil=>simp
 | cons c t ih=>
  have ih':=ih (fun c hc=>h c (by simp[hc]));have hc:=h c σ
  by_cases h1:(G'.K c).length+(if G'.mr c then 1 else 0)+Yc c<d
  ·have h2:(G.K c).length+(if G.mr c then 1 else 0)+ex c<d:=ω;rw[List.filter_cons_of_pos (by simpa using h1),List.filter_cons_of_pos (by simpa using h2)];simpa using ih'
  ·rw[List.filter_cons_of_neg (by simpa using h1)]
   by_cases h2:(G.K c).length+(if G.mr c then 1 else 0)+ex c<d
   ·rw[List.filter_cons_of_pos (by simpa using h2)];simp only[List.length_cons];omega
   ·rw[List.filter_cons_of_neg (by simpa using h2)];exact ih'
theorem IK(G:FG)(ex:Nat->Nat)(c:Nat)(l:List Nat)(d:Nat):few G ex (c::l) d=(if (G.K c).length+(if G.mr c then 1 else 0)+ex c<d then 1 else 0)+few G ex l d:=by
 unfold few;rw[List.filter_cons]
 by_cases h:(G.K c).length+(if G.mr c then 1 else 0)+ex c<d
 ·rw[if_pos (by simpa using h),if_pos h];simp;omega
 ·rw[if_neg (by simpa using h),if_neg h];omega
theorem bQ{α:Type}(f:Nat->α)(x:Nat)(v:α):ak f x v x=v:=by unfold ak;rw[if_pos rfl]
theorem bg{α:Type}(f:Nat->α){x z:Nat}(v:α)(h:z≠x):ak f x v z=f z:=by unfold ak;rw[if_neg h]
def VY(l:List Nat)(y:Nat):List Nat:=match l with|[]=>[y]|k::t=>y::(t++[k])
theorem Cx(l:List Nat)(y:Nat):(VY l y).Perm (y::l):=by
 cases l with
 | nil=>exact List.Perm.refl _
 | cons k t=>exact List.Perm.cons y (List.perm_append_comm (l₁:=t) (l₂:=[k]))
theorem mO(G:FG)(y x:Nat):(dM G y x).up=ak G.up y x:=rfl
theorem Ai(G:FG)(y x:Nat):(dM G y x).mr=ak G.mr y false:=rfl
theorem qP(G:FG)(y x:Nat):(dM G y x).K=ak G.K x (VY (G.K x) y):=rfl
theorem ui(G:FG)(y x:Nat):(dM G y x).R=G.R:=by unfold dM;cases G.K x<;>rfl
theorem zZ(G:FG)(y x:Nat):(dM G y x).nx=match G.K x with|[]=>G.nx|k::_=>dF G.nx k y:=by unfold dM;cases G.K x<;>rfl
theorem Tq(G:FG)(y x:Nat):(dM G y x).pv=match G.K x with|[]=>G.pv|k::_=>jF G.nx G.pv k y:=by unfold dM;cases G.K x<;>rfl
theorem FF.under(H:FF n G bN L ex){x y:Nat}(hx:x<n)(hy:y<n)(ux:G.up x=-1)(uy:G.up y=-1)(hne:x≠y)(hh:bN y=bN x)(h0:0<bN x)(hL:L x y)(sy:G.nx y=y)(hd:(G.K y).length=(G.K x).length)(hex:ex y=0) :
  FF n (dM G y x) bN L ex/\(∀z,z<n->z≠y->G.up z=-1->(dM G y x).nx z=G.nx z)/\(∀l:List Nat,Ring G.nx l->y∉l->(∀z,z∈l->z∉G.K x)->Ring (dM G y x).nx l):=by
 have kx:∀a z,a<n->z∈G.K a->z≠x/\z≠y:=fun a z ha hz=>by
  have:=(H.kid a z ha hz).2;exact⟨fun e=>by subst e;omega,fun e=>by subst e;omega⟩
 have far:∀z,z≠y->z∉G.K x->(dM G y x).nx z=G.nx z:=fun z h1 h2=>by
  rw[zZ];cases hK:G.K x with
  | nil=>rfl
  | cons k t=>exact jf (fun e=>h2 (by rw[hK,e];simp)) h1
 have nk:∀z,G.up z=-1->z∉G.K x:=fun z hu hm=>by
  have:=(H.kid x z hx hm).2;omega
 have rl:∀l:List Nat,Ring G.nx l->y∉l->(∀z,z∈l->z∉G.K x)->Ring (dM G y x).nx l:=fun l hr h1 h2=>hr.far (fun z hz=>far z (fun e=>h1 (e▸hz)) (h2 z hz));have mem:∀z,z∈VY (G.K x) y↔z=y\/z∈G.K x:=fun z=>by rw[(Cx _ _).mem_iff];simp
 refine⟨⟨?_,fun a z ha hz=>?_,fun z hz=>?_,fun a ha=>?_,fun z p hz hu=>?_,fun z p hz hu=>?_,fun z hz h1=>?_,fun z hz hu=>?_,fun a d ha=>?_⟩,fun z hz h1 h2=>far z h1 (nk z h2),rl⟩
 ·rw[zZ,Tq];cases hK:G.K x with
  | nil=>exact H.rg
  | cons k t=>exact H.rg.swap (H.kid x k hx (by rw[hK];simp)).1 hy
 ·rw[qP]at hz;rw[mO]
  by_cases e:a=x
  ·subst e;rw[bQ,mem]at hz;rcases hz with rfl|hz
   ·exact⟨hy,bQ _ _ _⟩
   ·exact⟨(H.kid a z ha hz).1,by rw[bg _ _ (kx a z ha hz).2];exact(H.kid a z ha hz).2⟩
  ·rw[bg _ _ e]at hz;exact⟨(H.kid a z ha hz).1,by rw[bg _ _ (kx a z ha hz).2];exact(H.kid a z ha hz).2⟩
 ·rw[mO,qP]
  by_cases e:z=y
  ·subst e;exact Or.inr ⟨x,hx,bQ _ _ _,by rw[bQ,mem];exact Or.inl rfl⟩
  ·rw[bg _ _ e];rcases H.Gu z hz with h1|⟨p,hp,h1,h2⟩
   ·exact Or.inl h1
   ·refine Or.inr ⟨p,hp,h1,?_⟩
    by_cases e2:p=x
    ·rw[e2,bQ,mem];rw[e2]at h2;exact Or.inr h2
    ·rw[bg _ _ e2];exact h2
 ·rw[qP]
  by_cases e:a=x
  ·subst e;rw[bQ,zZ];have hr:=H.ring a ha;cases hK:G.K a with
   | nil=>exact jB.2 sy
   | cons k t=>
    rw[hK]at hr
    have hj:=Ring.join hr (jB.2 sy) (fun z hz hm=>by
     simp at hm;subst hm
     exact(kx a z ha (by rw[hK];exact hz)).2 rfl)
    exact Ring.Xi (a:=[k]) (b:=y::t) hj
  ·rw[bg _ _ e]
   exact rl _ (H.ring a ha) (fun hm=>(kx a y ha hm).2 rfl) (fun z hz hm=>e (by
    have:=(H.kid a z ha hz).2;have:=(H.kid x z hx hm).2
    omega))
 ·rw[mO]at hu
  by_cases e:z=y
  ·subst e;rw[bQ]at hu;obtain rfl:p=x:=ω;exact⟨hh,ω⟩
  ·rw[bg _ _ e]at hu;exact H.home z p hz hu
 ·rw[mO]at hu
  by_cases e:z=y
  ·subst e;rw[bQ]at hu;obtain rfl:p=x:=ω;exact hL
  ·rw[bg _ _ e]at hu;exact H.ord z p hz hu
 ·have e1:z≠y:=fun e=>h1 (by rw[e,hh];exact h0);have e2:z≠x:=fun e=>h1 (by rw[e];exact h0);obtain⟨a1,a2,a3⟩:=H.alone z hz h1;exact⟨by rw[mO,bg _ _ e1];exact a1,by rw[qP,bg _ _ e2];exact a2,by rw[far z e1 (nk z a1)];exact a3⟩
 ·rw[mO]at hu;rw[Ai]
  by_cases e:z=y
  ·subst e;rw[bQ]
  ·rw[bg _ _ e]at hu⊢;exact H.free z hz hu
 ·have old:∀b:Nat,b<n->few (dM G y x) ex (G.K b) d=few G ex (G.K b) d:=fun b hb=>uI d (fun c hc=>by
   have:=kx b c hb hc
   rw[qP,Ai,bg _ _ this.1,bg _ _ this.2])
  by_cases e:a=x
  ·subst e;rw[show(dM G y a).K a=VY (G.K a) y from bQ _ _ _,Ia _ _ (Cx _ _),IK,old a ha,qP,Ai,bQ,bg _ _ (Ne.symm hne),hex];have h1:=H.cnt a d ha;have h2:=ZO G ex (G.K a) d;simp only[Bool.false_eq_true,if_false,Nat.add_zero]
   split<;>omega
  ·rw[show(dM G y x).K a=G.K a from bg _ _ e,old a ha];exact H.cnt a d ha
end
end Go.Proofs.YtklibcncmbofpaaGreat
