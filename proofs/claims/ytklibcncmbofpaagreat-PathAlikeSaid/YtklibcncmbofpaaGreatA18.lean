/-
  Lemmas for PathAlike: Ds, PbP, Cpy, CpE. Conditions: those of each lemma.
-/
import Derived.Deep.AppendLies
import Derived.Test.YtklibcncmbofpaaGreatA17
set_option linter.all false
set_option maxHeartbeats 8000000
set_option maxRecDepth 10000
namespace Go.Proofs.YtklibcncmbofpaaGreat
open Go Go.RowKit
structure DS (N:Nat) (d:Nat->Nat) (W:Nat->Prop) (R:AR) (A:NS) (q c:Nat) (hc:Nat->Value) (f:Int->Int->Option Int) (sl:Nat->Nat):Prop where
 ok:R.Ok
 okA:A.Ok
 lA:A.cs.length=N
 lR:R.sl.length=N
 link:∀x:Nat,R.v x=bQ A (x:Int)
 has:bD A 1=true
 most:R.most=1
 wait:R.wait=[]
 next:R.next=cntF d N
 qn:q=R.next
 cn:c=R.next
 U7:∀v,v<N->d v≠inf->sl v<R.next/\f (sl v:Int) 1=some (v:Int)/\hc (v*2)=.int .i64 (sl v:Int)/\hc (v*2+1)=.int .u32 1/\R.g (sl v)=1
 wt:∀v,W v->v<N/\d v≠inf/\R.v (sl v)=true/\(A.c (sl v)).i=1/\(A.c (sl v)).k=(d v:Int)
 lv:∀x,R.v x=true->∃v,W v/\sl v=x
section
variable {N:Nat} {d:Nat->Nat} {W:Nat->Prop} {R:AR} {A:NS} {q c:Nat} {hc:Nat->Value} {f:Int->Int->Option Int} {sl:Nat->Nat}
theorem DS.inj (h:DS N d W R A q c hc f sl) {u v:Nat} (hu:u<N) (hu2:d u≠inf) (hv:v<N) (hv2:d v≠inf) (e:sl u=sl v):u=v:=by
 have h1:=(h.U7 u hu hu2).2.1;have h2:=(h.U7 v hv hv2).2.1;rw [e,h2] at h1;cases h1;omega
theorem DS.none (h:DS N d W R A q c hc f sl) (hm:dF A 1=none):∀v,¬W v:=fun v hv=>by
 have h1:=(jB ω).1 hm;obtain ⟨a1,a2,a3,a4,a5⟩:=h.wt v hv;have h3:bQ A (sl v:Int)=true:=by rw [←h.link];exact a3
 have h4:=(ae _ _).1 h3;have:0<dI A 1:=eH.2 ⟨sl v,h4.1,a4,ω⟩;omega
theorem DS.min (h:DS N d W R A q c hc f sl) {x:Nat} (hm:dF A 1=some x):∃v,W v/\sl v=x/\(A.c x).k=(d v:Int)/\(∀u,W u->d v<=d u)/\f (x:Int) 1=some (v:Int)/\R.g x=1/\R.v x=true:=by
 obtain ⟨m1,m2,m3,m4⟩:=kQ hm;have hv:R.v x=true:=by rw [h.link];exact m4
 obtain ⟨v,hW,rfl⟩:=h.lv x hv;obtain ⟨a1,a2,a3,a4,a5⟩:=h.wt v hW;have hs:=h.U7 v a1 a2;refine ⟨v,hW,rfl,a5,fun u hu=>?_,hs.2.1,hs.2.2.2.2,hv⟩;obtain ⟨b1,b2,b3,b4,b5⟩:=h.wt u hu;have hf:=(iB ω).1 hm;have hu3:bQ A (sl u:Int)=true:=by rw [←h.link];exact b3
 have fZ:=(ae _ _).1 hu3;rcases hf.2.2 (sl u) fZ.1 b4 with e|e
 ·have:u=v:=h.inj b1 b2 a1 a2 e;rw [this];exact Θ _
 ·unfold bX at e;rw [a5,b5] at e;omega
theorem DS.take (h:DS N d W R A q c hc f sl) {v:Nat} (hW:W v):DS N d (fun u=>W u/\u≠v) (jV R (sl v)) (aZ A (sl v:Int)) q c hc f sl:=by
 obtain ⟨a1,a2,a3,a4,a5⟩:=h.wt v hW;have hin:bQ A (sl v:Int)=true:=by rw [←h.link];exact a3
 have hg:=(h.U7 v a1 a2).2.2.2.2;have hwt:(jV R (sl v)).wait=[]:=by
  show (if R.g (sl v)<R.most then R.wait++[sl v] else R.wait)=[]
  rw [Γ (by rw [hg,h.most];omega),h.wait]
 have eg:∀y,(jV R (sl v)).g y=R.g y:=fun y=>by
  show (R.put (sl v) (R.g (sl v),false)).g y=_
  rw [AR.yc]
  split
  ·rename_i e;rw [e.1]
  ·rfl
 refine ⟨(Eg h.ok a3).1,GU h.okA _,by rw [eU];exact h.lA,by rw [CX];exact h.lR,fun y=>by rw [DX a3,Le hin,h.link],by rw [show bD (aZ A (sl v:Int)) 1=bD A 1 from by unfold bD;rw [iK]];exact h.has,h.most,hwt,h.next,h.qn,h.cn,fun u hu hd=>?_,fun u hu=>?_,fun y hy=>?_⟩
 ·obtain ⟨b1,b2,b3,b4,b5⟩:=h.U7 u hu hd;exact ⟨b1,b2,b3,b4,by rw [eg];exact b5⟩
 ·obtain ⟨b1,b2,b3,b4,b5⟩:=h.wt u hu.1;have hne:sl u≠sl v:=fun e=>hu.2 (h.inj b1 b2 a1 a2 e);have hc:=xz hin (sl u);rw [Γ hne] at hc;exact ⟨b1,b2,by rw [DX a3,b3,Ξ hne];rfl,by rw [hc];exact b4,by rw [hc];exact b5⟩
 ·rw [DX a3] at hy;simp only [Τ,Bool.not_eq_true',decide_eq_false_iff_not] at hy;obtain ⟨u,hu,rfl⟩:=h.lv y hy.1;exact ⟨u,⟨hu,fun e=>hy.2 (by rw [e])⟩,rfl⟩
theorem DS.new (h:DS N d W R A q c hc f sl) {t x':Nat} (ht:t<N) (hd:d t=inf) (hx:x'≠inf) (hxm:x'<=inf):∃R',uG R=some (R.next,R')/\R.g R.next=0/\
  DS N (bW d t x') (fun u=>W u\/u=t) R' (aJ A 1 (R.next:Int) (x':Int) ((q:Int)+1)) (q+1) (c+1) (xR hc t (R.next:Int) ((R.g R.next:Int)+1)) (fun z e=>if z=(R.next:Int)/\e=(R.g R.next:Int)+1 then some (t:Int) else f z e) (bW sl t R.next):=by
 have hcs:=vS (n:=N) ht hd hx;have hle:=EB (bW d t x') N;have hlt:R.next<N:=by rw [h.next];omega
 have hfr:=h.ok.fresh R.next (Θ _);have hpk:uK R=some (R.next,{ R with next:=R.next+1 }):=by
  unfold uK;rw [h.wait];simp only [List.getLast?_nil];rw [Γ (by rw [h.lR];omega)]
 obtain ⟨R',hR⟩:∃R',R'=AR.put { R with next:=R.next+1 } R.next (R.g R.next+1,true):=⟨_,rfl⟩;have htk:uG R=some (R.next,R'):=by unfold uG;rw [hpk,hR];rfl
 obtain ⟨t1,t2,t3,t4,t5,t6,t7⟩:=wG h.ok htk;have XW:R'.next=R.next+1:=by rw [hR];rfl
 have hR'w:R'.wait=[]:=by rw [hR];exact h.wait
 have hR'g:∀y,R'.g y=if y=R.next then 1 else R.g y:=fun y=>by
  have e:R'.g y=(R.put R.next (R.g R.next+1,true)).g y:=by
   show (R'.sl.getD y (0,false)).1=((R.sl.set R.next (R.g R.next+1,true)).getD y (0,false)).1
   rw [t5]
  rw [e,AR.yc]
  by_cases e2:y=R.next
  ·rw [Δ ⟨e2,t2⟩,Δ e2,hfr.1]
  ·rw [Γ (fun h=>e2 h.1),Γ e2]
 have ZH:nR A 1 (R.next:Int)=true:=by
  rw [dW];refine ⟨h.has,(gH _ _).2 ⟨ω,by rw [h.lA];omega⟩,?_⟩;rw [←h.link];exact hfr.2
 have hpc:∀y,(aJ A 1 (R.next:Int) (x':Int) ((q:Int)+1)).c y=if y=R.next then ⟨1,x',(q:Int)+1⟩ else A.c y:=fun y=>by
  unfold aJ;rw [Δ ZH,jQ]
  by_cases e2:y=R.next
  ·rw [Δ ⟨ω,by rw [h.lA];omega⟩,Δ e2]
  ·rw [Γ (fun h=>e2 ω),Γ e2]
 have hsd:∀u,bW d t x' u≠inf->u≠t->d u≠inf:=fun u hu e=>by unfold bW at hu;rw [Γ e] at hu;exact hu
 have hN4:N<=65536:=by have:=h.okA.c1;have:=h.lA;omega
 refine ⟨R',htk,hfr.1,t1,yI h.okA _ _ _ _ ⟨ω,by unfold inf at hxm;omega,ω,by have:=h.qn;omega⟩,by rw [Ia];exact h.lA,by rw [t5];simp [h.lR],fun y=>by rw [zW h.ok htk,Tf ZH,h.link],?_,by rw [t6];exact h.most,hR'w,by rw [XW,h.next,hcs],by rw [XW,h.qn],by rw [XW,h.cn],fun v hv hdv=>?_,fun v hv=>?_,fun y hy=>?_⟩
 ·unfold aJ;rw [Δ ZH];exact h.has
 ·by_cases e:v=t
  ·subst e;have e1:bW sl v R.next v=R.next:=by unfold bW;rw [Δ rfl]
   rw [e1,hfr.1];refine ⟨ω,by rw [Δ ⟨rfl,ω⟩],?_,?_,by rw [hR'g,Δ rfl]⟩
   ·unfold xR;rw [Γ ω,Δ rfl]
   ·unfold xR;rw [Δ rfl];rfl
  ·have e1:bW sl t R.next v=sl v:=by unfold bW;rw [Γ e]
   obtain ⟨b1,b2,b3,b4,b5⟩:=h.U7 v hv (hsd v hdv e);rw [e1];refine ⟨ω,by rw [Γ (fun h=>by have:=h.1;omega)];exact b2,?_,?_,by rw [hR'g,Γ ω];exact b5⟩
   ·unfold xR;rw [Γ ω,Γ ω];exact b3
   ·unfold xR;rw [Γ ω,Γ ω];exact b4
 ·rcases hv with hv|rfl
  ·obtain ⟨b1,b2,b3,b4,b5⟩:=h.wt v hv;have e:v≠t:=fun e=>b2 (by rw [e];exact hd);have e1:bW sl t R.next v=sl v:=by unfold bW;rw [Γ e]
   have e2:bW d t x' v=d v:=by unfold bW;rw [Γ e]
   have hsn:=(h.U7 v b1 b2).1;have hne:sl v≠R.next:=ω;rw [e1,e2,hpc,Γ hne];exact ⟨b1,b2,by rw [zW h.ok htk,b3];rfl,b4,b5⟩
  ·have e1:bW sl v R.next v=R.next:=by unfold bW;rw [Δ rfl]
   have e2:bW d v x' v=x':=by unfold bW;rw [Δ rfl]
   rw [e1,e2,hpc,Δ rfl];exact ⟨ht,hx,by rw [zW h.ok htk];simp,rfl,rfl⟩
 ·rw [zW h.ok htk] at hy;simp only [Bool.or_eq_true,Ο] at hy
  by_cases e:y=R.next
  ·exact ⟨t,Β rfl,by unfold bW;rw [Δ rfl,e]⟩
  ·obtain ⟨u,hu,he⟩:=h.lv y (by rcases hy with h1|h1;exact h1;omega);have e2:u≠t:=fun e2=>(h.wt u hu).2.1 (by rw [e2];exact hd);exact ⟨u,Α hu,by unfold bW;rw [Γ e2];exact he⟩
theorem DS.low (h:DS N d W R A q c hc f sl) {t x':Nat} (hW:W t) (hx:x'<=d t) (hdi:d t<=inf) (hxi:x'≠inf):DS N (bW d t x') (fun u=>W u\/u=t) R (ak A (sl t:Int) (x':Int) (A.c (sl t)).s) q c hc f sl:=by
 obtain ⟨a1,a2,a3,a4,a5⟩:=h.wt t hW;have hin:bQ A (sl t:Int)=true:=by rw [←h.link];exact a3
 have hlo:=Me hin (k:=(x':Int)) (by rw [a5];omega);have hlc:=qN hlo ((ae _ _).1 hin).1;have hkey:=h.okA.key (sl t);have hiff:∀v,v<N->(bW d t x' v=inf↔d v=inf):=fun v hv=>by
  unfold bW
  by_cases e:v=t
  ·rw [Δ e,e];exact ⟨fun h=>absurd h hxi,fun h=>absurd h a2⟩
  ·rw [Γ e]
 refine ⟨h.ok,Li h.okA _ _ _ ⟨ω,by unfold inf at hdi;omega,hkey.2.2.1,hkey.2.2.2⟩,by rw [eB];exact h.lA,h.lR,fun y=>by rw [FU];exact h.link y,by rw [show bD (ak A (sl t:Int) (x':Int) (A.c (sl t)).s) 1=bD A 1 from by unfold bD;rw [kV]];exact h.has,h.most,h.wait,by rw [h.next];exact (Ef hiff).symm,h.qn,h.cn,fun v hv hd=>h.U7 v hv (fun e=>hd ((hiff v hv).2 e)),fun v hv=>?_,fun y hy=>?_⟩
 ·have hv':W v:=by rcases hv with h1|rfl;exact h1;exact hW
  obtain ⟨b1,b2,b3,b4,b5⟩:=h.wt v hv';rw [hlc]
  by_cases e:v=t
  ·subst e;rw [Δ rfl];have e2:bW d v x' v=x':=by unfold bW;rw [Δ rfl]
   rw [e2];exact ⟨b1,hxi,b3,b4,rfl⟩
  ·have hne:sl v≠sl t:=fun e2=>e (h.inj b1 b2 a1 a2 e2);rw [Γ hne];have e2:bW d t x' v=d v:=by unfold bW;rw [Γ e]
   rw [e2];exact ⟨b1,b2,b3,b4,b5⟩
 ·obtain ⟨u,hu,he⟩:=h.lv y hy;exact ⟨u,Α hu,he⟩
end
theorem GZ {E E':List En} {s N m m':Nat} (g:EW E s N m) (g':EW E' s N m') (hs:∀e,e∈E->e∈E') (v:Nat):passes E' s N v<=passes E s N v:=
 qx g (fun e he hf=>Da g' e (hs e he) hf) (j5 g' N).src (j5 g' N).le N v
theorem Oj {N s:Nat} {E:List Ed} {e:Ed} (h:bI (N:Int) E=true) (h':bI (N:Int) (E++[e])=true) (hs:s<N) (v:Nat):passes (eN (E++[e])) s N v<=passes (eN E) s N v:=
 GZ (pX h hs) (pX h' hs) (fun x hx=>by rw [List.map_append];exact τ.2 (Α hx)) v
theorem NK {N s:Nat} {E:List Ed} (hw:bI (N:Int) E=true) (hs:s<N):passes (eN E) s N s=0:=(j5 (pX hw hs) N).src
structure lg (e:TypeId) (g:Nat) (w:World):Prop where
 at':w.heap[g]?=some (.cells #[] e (0,0))
theorem lg.new {e:TypeId} {g:Nat} {w:World} (h:g=w.heap.size):lg e g (w.alloc (.cells #[] e)):=by
 subst h;exact ⟨by show (w.heap.push _)[w.heap.size]?=_;simp⟩
theorem lg.lt {e:TypeId} {g:Nat} {w:World} (h:lg e g w):g<w.heap.size:=(Array.getElem?_eq_some_iff.1 h.at').1
theorem lg.upd {e:TypeId} {g:Nat} {w w':World} {S:List Nat} (h:lg e g w) (hu:aa S w w') (hn:g∉S):lg e g w':=⟨by rw [hu.block g h.lt hn];exact h.at'⟩
theorem lg.alloc {e:TypeId} {g:Nat} {w:World} (h:lg e g w) (o:Obj):lg e g (w.alloc o):=h.upd ((aa.refl [] w).alloc o) σ
theorem lg.drew {e:TypeId} {g:Nat} {w:World} (h:lg e g w):lg e g w.drew:=h.upd ((aa.refl [] w).drew) σ
structure gI (w:World) (ad:Addr) (news:List Value):Prop where
 at':∀j u,news[j]?=some u->w.cell? (ad.add j)=some u
theorem gI.ints {w:World} {a:Option Addr} {n c:Nat} {l:List Int} (h:iC w [] (.slice a n c) l) (hl:0<l.length):∃g off,a=some ⟨g,off,none⟩/\gI w ⟨g,off,none⟩ (aP l):=by
 obtain ⟨a',c',he,_,_,h3⟩:=h;cases he;obtain ⟨g,off,rfl,_,_,_⟩:=h3 0 _ (ε hl);refine ⟨g,off,rfl,⟨fun j u hj=>?_⟩⟩;unfold aP at hj;rw [ϑ] at hj;cases hq:l[j]? with
 | none=>rw [hq] at hj;cases hj
 | some y=>
  rw [hq] at hj;simp at hj;subst hj;obtain ⟨g',off',he,_,_,hc⟩:=h3 j y hq;cases he;rw [Addr.add_lit];exact hc
theorem Nz {ops:Array Oper} {o:Oper} {a:Act} {w:World} {K:Act->World->Prop} {Q:Exit->Act->World->Prop} {E:Prop} (hgd:o.guard=none) (s x:Operand) (t e:TypeId)
  (ho:o.op=.call { callee:=.builtin .append,args:=#[s,x],argTypes:=#[t,t] }) (z:Value) (size bytes:Nat) (ht:Tryz.prog.underlying t=some (.slice e))
  (hinfo:(Tryz.prog.info? e).map (fun i=>(i.zero,i.size,i.bytes))=some (some z,size,bytes)) (hzs:z.cells.size=size) (hsz:0<size)
  (gl:Nat) (hs:a.eval s=.slice (some ⟨gl,0,none⟩) 0 0) (R5:lg e gl w)
  (ad:Addr) (m c:Nat) (news:List Value) (hx:a.eval x=.slice (some ad) m c) (hl:news.length=m*size) (hnews:gI w ad news) (h1:∀u∈news,u.oneCell'=true)
  (hm:0<m) (hm2:m<=1000000) (hb2:bytes<=100)
  (h:∀g cap w',w'.ownsRow gl e size (.slice (some ⟨g,0,none⟩) m cap) m news->aa [gl] w w'->(g=gl\/g=w.heap.size)->K (a.put o.dst (.slice (some ⟨g,0,none⟩) m cap)) w') :
  if Region.wanted o (yielded ops a.tmps)=true then Oper.wp Tryz.prog o a w K Q else E:=by
 obtain ⟨i,hi,hz0,hz1,hz2⟩:=info_parts hinfo;have hown:w.ownsRow gl e size (.slice (some ⟨gl,0,none⟩) 0 0) 0 []:=⟨σ,Β ⟨gl,0,#[],rfl,Θ _,R5.at',Θ _,μ,σ,σ⟩⟩;have hlt:=R5.lt;refine step_append_lies w hgd s x t ho gl e i z size bytes ht hi hz0 hz1 hz2 hzs hsz _ 0 [] hs hown ad m c news hx hl hnews.at' h1 hm μ (by rw [ϓ];exact Χ (Nat.mul_le_mul hm2 hb2) δ) ω w.heap.size rfl ?_;intro g cap w' ho' hg hat hlt';simp only [ϓ,Ϛ] at ho';rw [ϓ];refine h g cap w' ho' ((aa.refl _ _).grown hg (fun k hk=>Α ?_)) ?_
 ·have:some gl=some k:=hk;simp at this;simp [this]
 ·rcases hat with h|h
  ·have:some gl=some g:=h;simp at this;exact Α this.symm
  ·exact Β h
theorem aa.copy {a w w':World} {gl:Nat} (h:aa [] a w) (hu:aa [gl] w w') (hg:a.heap.size<=gl):aa [] a w':=h.joined hu (fun x hx=>Β (by simp at hx;omega))
theorem aa.two {G:Prop} {w w':World} {gl:Nat} (hu:aa [gl] w w') (b:Nat) (v0 v1:Value) (h0:w.cell? ⟨b,0,none⟩=some v0) (h1:w.cell? ⟨b,1,none⟩=some v1) (f0:w.frozen? ⟨b,0,none⟩=false) (f1:w.frozen? ⟨b,1,none⟩=false) (hn:b≠gl)
  (k:w'.cell? ⟨b,0,none⟩=some v0->w'.cell? ⟨b,1,none⟩=some v1->w'.frozen? ⟨b,0,none⟩=false->w'.frozen? ⟨b,1,none⟩=false->b<w'.heap.size->G):G:=
 k (hu.kept h0 (by simpa using hn)) (hu.kept h1 (by simpa using hn)) (hu.aH h0 (by simpa using hn) f0) (hu.aH h1 (by simpa using hn) f1) (Ψ (Ε _ _ h0) hu.size)
theorem Ak:(Tryz.prog.info? 67).map (fun i=>(i.zero,i.size,i.bytes))=some (some (.agg #[.int .i64 0,.int .i64 0,.int .i64 0]),3,24):=by kernel_rfl
def wP:List Ed->List Value
 | []=>[]
 | e::E=>.int .i64 e.f::.int .i64 e.t::.int .i64 e.w::wP E
theorem DF:∀E:List Ed,(wP E).length=E.length*3
 | []=>rfl
 | e::E=>by simp [wP,DF E];omega
theorem LD:∀ (E F:List Ed),wP (E++F)=wP E++wP F
 | [],_=>rfl
 | e::E,F=>by simp [wP,LD E F]
theorem Dp:∀ (E:List Ed) (u:Value),u∈wP E->u.oneCell'=true
 | [],u,h=>by cases h
 | e::E,u,h=>by
  simp only [wP,ρ] at h;rcases h with rfl|rfl|rfl|h
  ·rfl
  ·rfl
  ·rfl
  ·exact Dp E u h
theorem Mi:∀ (E:List Ed) (j:Nat) (e:Ed),E[j]?=some e->(wP E)[j*3]?=some (.int .i64 e.f)/\(wP E)[j*3+1]?=some (.int .i64 e.t)/\(wP E)[j*3+2]?=some (.int .i64 e.w)
 | [],j,e,h=>by simp at h
 | x::E,0,e,h=>by
  simp at h;subst h;exact ⟨rfl,rfl,rfl⟩
 | x::E,j+1,e,h=>by
  have h':=Mi E j e (by simpa using h);rw [show (j+1)*3=j*3+1+1+1 by omega];exact h'
theorem FX {w:World} {g:Nat}:∀ (E:List Ed) (off:Nat),(∀j e,E[j]?=some e->w.cell? ⟨g,off+j*3,none⟩=some (.int .i64 e.f)/\w.cell? ⟨g,off+j*3+1,none⟩=some (.int .i64 e.t)/\w.cell? ⟨g,off+j*3+2,none⟩=some (.int .i64 e.w))->
  ∀j u,(wP E)[j]?=some u->w.cell? ⟨g,off+j,none⟩=some u
 | [],off,_,j,u,h=>by simp [wP] at h
 | e::E,off,hc,j,u,h=>by
  have h0:=hc 0 e rfl;simp only [Nat.zero_mul,ϔ] at h0
  match j,h with
  | 0,h=>simp [wP] at h;subst h;exact h0.1
  | 1,h=>simp [wP] at h;subst h;exact h0.2.1
  | 2,h=>simp [wP] at h;subst h;exact h0.2.2
  | j+3,h=>
   have h':(wP E)[j]?=some u:=by simpa [wP] using h
   have:=FX E (off+3) (fun k x hk=>by
    have:=hc (k+1) x (by simpa using hk);rw [show off+3+k*3=off+(k+1)*3 by omega]
    exact this) j u h'
   rw [show off+(j+3)=off+3+j by omega];exact this
theorem gI.aaL {w:World} {a:Option Addr} {n c:Nat} {E:List Ed} (h:vB w (.slice a n c) E) (hl:0<E.length):∃g off,a=some ⟨g,off,none⟩/\gI w ⟨g,off,none⟩ (wP E):=by
 obtain ⟨a',c',he,_,_,h3⟩:=h;cases he;obtain ⟨g,off,rfl,_⟩:=h3 0 _ (ε hl);refine ⟨g,off,rfl,⟨fun j u hj=>?_⟩⟩;rw [Addr.add_lit];refine FX E off (fun j e hj=>?_) j u hj;obtain ⟨_,_,he,_,hc⟩:=h3 j e hj;cases he;exact hc
theorem vB.gW {w:World} {base n:Nat} {v:Value} {E:List Ed} (h:w.ownsRow base 67 3 v n (wP E)):vB w v E:=by
 have hl:E.length=n:=by have:=h.1;rw [DF] at this;omega
 rcases h.2 with ⟨rfl,h0⟩|⟨g,cap,cur,rfl,hb,hg,hn,hc,_⟩
 ·obtain rfl:E=[]:=ϙ ω;exact ⟨none,0,rfl,ω,σ,fun j e h=>by simp at h⟩
 ·unfold maxLen at hc;refine ⟨_,cap,by rw [hl],hc,ω,fun j e hj=>⟨g,0,rfl,(h.lt g rfl).2,?_⟩⟩;have hjl:=(List.getElem?_eq_some_iff.1 hj).1;obtain ⟨g0,g1,g2⟩:=Mi E j e hj;rw [ϓ];exact ⟨by rw [h.cellAt (j*3) ω];exact g0,by rw [h.cellAt (j*3+1) ω];exact g1,by rw [h.cellAt (j*3+2) ω];exact g2⟩
theorem yw {P:Program} {w:World} (base:Nat) (t ty e:TypeId) (i:TypeInfo) (size:Nat) (ht:P.underlying t=some (.slice e)) (hi:P.info? e=some i) (v:Value) (n:Nat) (xs:List Value) (hown:w.ownsRow base e size v n xs) (ad:Option Addr) (c:Nat) :
  (Builtin.append_ #[t,t] ty #[v,.slice ad 0 c]).run P w=.ok v w:=by
 rcases hown.2 with ⟨rfl,rfl⟩|⟨g,cap,cur,rfl,_,_,hnc,_⟩
 ·cases ad<;>simp [Builtin.append_,run_underlying ht,sizeOf,typeInfo,hi,Builtin.lenOf,Builtin.firstCells,storeCells,loadCells,loadCellsFrom]
 ·cases ad<;>simp [Builtin.append_,run_underlying ht,sizeOf,typeInfo,hi,Builtin.lenOf,hnc,Builtin.firstCells,storeCells,loadCells,loadCellsFrom]
theorem Ja {ops:Array Oper} {o:Oper} {a:Act} {w:World} {K:Act->World->Prop} {Q:Exit->Act->World->Prop} {G:Prop} (hgd:o.guard=none) (s x:Operand)
  (ho:o.op=.call { callee:=.builtin .append,args:=#[s,x],argTypes:=#[55,55] })
  (gl:Nat) (hs:a.eval s=.slice (some ⟨gl,0,none⟩) 0 0) (R5:lg 67 gl w)
  (v2:Value) (n:Nat) (E:List Ed) (hx:a.eval x=v2) (hE:vB w v2 E) (hn:E.length=n) (hm2:n<=1000000)
  (h:∀g cap w',w'.ownsRow gl 67 3 (.slice (some ⟨g,0,none⟩) n cap) n (wP E)->aa [gl] w w'->(g=gl\/g=w.heap.size)->K (a.put o.dst (.slice (some ⟨g,0,none⟩) n cap)) w') :
  if Region.wanted o (yielded ops a.tmps)=true then Oper.wp Tryz.prog o a w K Q else G:=by
 obtain ⟨a',c,rfl,hc⟩:=hE.shape
 by_cases hn0:n=0
 ·obtain rfl:E=[]:=ϙ ω;subst hn0;have hw:Region.wanted o (yielded ops a.tmps)=true:=by simp [Region.wanted,hgd]
  rw [Δ hw];obtain ⟨i,hi,hz0,hz1,hz2⟩:=info_parts Ak;have hown:w.ownsRow gl 67 3 (.slice (some ⟨gl,0,none⟩) 0 0) 0 []:=⟨σ,Β ⟨gl,0,#[],rfl,Θ _,R5.at',Θ _,μ,σ,σ⟩⟩;have hr:=yw (P:=Tryz.prog) gl 55 o.type 67 i 3 Tryz.underlying55 hi _ 0 [] hown a' c;simp only [List.length_nil] at hx;unfold Oper.wp execOp;simp only [ho,resolve,invoke,builtin,Sem.run_bind,Sem.run_pure,Result.andThen_ok,List.map_toArray,List.map_cons,List.map_nil,hs,hx,hr];exact h gl 0 w hown (aa.refl _ _) (Α rfl)
 ·obtain ⟨g,off,rfl,hN⟩:=gI.aaL hE ω;rw [hn] at hx;exact Nz hgd s x 55 67 ho (.agg #[.int .i64 0,.int .i64 0,.int .i64 0]) 3 24 Tryz.underlying55 Ak rfl δ gl hs R5 ⟨g,off,none⟩ n c (wP E) hx (by rw [DF,hn]) hN (Dp E) ω hm2 δ h
theorem gI.new {w:World} {g:Nat} {vs:List Value} {e:TypeId} (h:g=w.heap.size):gI (w.alloc (.cells vs.toArray e)) ⟨g,0,none⟩ vs:=by
 subst h;exact ⟨fun j u hj=>DY w vs e j u hj⟩
theorem gI.Yz {w w':World} {g off:Nat} {vs:List Value} {S:List Nat} (h:gI w ⟨g,off,none⟩ vs) (hu:aa S w w') (hn:g∉S):gI w' ⟨g,off,none⟩ vs:=⟨fun j u hj=>by
 have:=h.at' j u hj;rw [Addr.add_lit] at this ⊢
 exact hu.kept this hn⟩
theorem gI.alloc {w:World} {g off:Nat} {vs:List Value} (h:gI w ⟨g,off,none⟩ vs) (o:Obj):gI (w.alloc o) ⟨g,off,none⟩ vs:=h.Yz ((aa.refl [] w).alloc o) σ
theorem gI.drew {w:World} {g off:Nat} {vs:List Value} (h:gI w ⟨g,off,none⟩ vs):gI w.drew ⟨g,off,none⟩ vs:=h.Yz ((aa.refl [] w).drew) σ
theorem J8 {ops:Array Oper} {o:Oper} {a:Act} {w:World} {K:Act->World->Prop} {Q:Exit->Act->World->Prop} {G:Prop} (hgd:o.guard=none) (s x:Operand)
  (ho:o.op=.call { callee:=.builtin .append,args:=#[s,x],argTypes:=#[55,55] })
  (base:Nat) (v:Value) (n:Nat) (E:List Ed) (hs:a.eval s=v) (hown:w.ownsRow base 67 3 v n (wP E))
  (gn:Nat) (e:Ed) (hx:a.eval x=.slice (some ⟨gn,0,none⟩) 1 1) (hnews:gI w ⟨gn,0,none⟩ (wP [e])) (hn:n<=1000000) (hbase:base<=w.heap.size)
  (h:∀v' w',w'.ownsRow base 67 3 v' (n+1) (wP (E++[e]))->aa v.ownBlock.toList w w'->(v'.ownBlock=v.ownBlock\/v'.ownBlock=some w.heap.size)->K (a.put o.dst v') w') :
  if Region.wanted o (yielded ops a.tmps)=true then Oper.wp Tryz.prog o a w K Q else G:=
 iL hgd s x 55 ho base 67 (.agg #[.int .i64 0,.int .i64 0,.int .i64 0]) 3 24 Tryz.underlying55 Ak rfl δ v n (wP E) hs hown gn (wP [e]) hx rfl
  (fun j u hj=>by have:=hnews.at' j u hj;rwa [Addr.add_lit,ϓ] at this) (Dp _) μ ω hbase (fun v' w' h1 h2 h3=>h v' w' (by rw [LD];exact h1) h2 h3)
end Go.Proofs.YtklibcncmbofpaaGreat
