/-
  Lemmas for ProofHolds: Map, Cells, Cells2, Cells4, Cells5, Ord, Enters, Mth, NestB, Qn, MapH. Conditions: those of each lemma.
-/
import Derived.Maps.OwnSet
import Derived.Maps.OwnOps
import Derived.Maps.RangeWalk
import Derived.DeepKeys4
import Derived.Test.YtklibcncmbofpaaGreatR01
set_option linter.all false
set_option maxHeartbeats 8000000
set_option maxRecDepth 10000
namespace Go.Proofs.YtklibcncmbofpaaGreat
open Go Go.RowKit Go.Maps
theorem nodup_range:∀ (n:Nat) (l:List Int),l.Nodup->(∀x,x∈l->0<=x/\x<n)->l.length<=n
 | 0,l,_,h=>by
  cases l with
  | nil=>simp
  | cons x r=>have:=h x σ;omega
 | n+1,l,hn,h=>by
  have h1:=nodup_range n (l.filter (fun x=>x != (n:Int))) (hn.filter _) (fun x hx=>by
   simp only[List.mem_filter]at hx;have:=h x hx.1;have h2:x≠n:=by simpa using hx.2
   omega)
  have h2:l.length<=(l.filter (fun x=>x != (n:Int))).length+1:=by
   clear h1 h
   induction l with
   | nil=>simp
   | cons y r ih=>
    rw[List.nodup_cons]at hn
    by_cases hy:y=n
    ·subst hy;have e:r.filter (fun x=>x != (n:Int))=r:=by
      rw[List.filter_eq_self];intro a ha;simp;intro e;subst e;exact hn.1 ha
     rw[List.filter_cons_of_neg σ,e];simp
    ·rw[List.filter_cons_of_pos (by simpa using hy)];have:=ih hn.2;simp only[List.length_cons];omega
  omega
def gN(w:World)(b:Nat)(f:Int->Option Int):Prop:=
 ∃D:DataW Unit,w.ownsMap Tryz.prog 3 (plainElem Tryz.prog 3) b (Maps.size D) D/\
  (∀kl,Maps.has D kl=true->∃k:Int,kl=.int .i64 k/\0<=k/\k<=65536/\(f k).isSome=true)/\
  (∀k z,f k=some z->Maps.has D (.int .i64 k)=true/\∀d,D.atKey (.int .i64 k) d=.lit (.int .i64 z))
theorem wE{w:World}{k:TypeId}{R:Value->Option (DataW Unit×List MemPlace)}{b n:Nat}{D:DataW Unit}(h:w.ownsMap Tryz.prog k R b n D):w.ownsMap Tryz.prog k R b (Maps.size D) D:=by
 obtain⟨es,clock,hb,F,hs,rfl⟩:=h;exact⟨es,clock,hb,F,by simp[Maps.size,length_sorted],rfl⟩
theorem pM:Keyed Tryz.prog 3:=int_keyed Tryz.underlying3
theorem DR(w:World):(zeroValue 3).run Tryz.prog w=.ok (.int .i64 0) w:=by kernel_rfl
theorem gN.same{w w':World}{b:Nat}{f:Int->Option Int}(h:gN w b f)(hb:w'.heap[b]?=w.heap[b]?):gN w' b f:=by
 obtain⟨D,⟨es,clock,h1,h2⟩,h3⟩:=h;exact⟨D,⟨es,clock,hb.trans h1,h2⟩,h3⟩
theorem gN.lt{w:World}{b:Nat}{f:Int->Option Int}(h:gN w b f):b<w.heap.size:=by
 obtain⟨D,h1,_⟩:=h;exact h1.lt
theorem gN.upd{w w':World}{S:List Nat}{b:Nat}{f:Int->Option Int}(h:gN w b f)(hu:aa S w w')(hn:b∉S):gN w' b f:=h.same (hu.block b h.lt hn)
theorem gN.ext{w:World}{b:Nat}{f g:Int->Option Int}(h:gN w b f)(hg:∀k,f k=g k):gN w b g:=by
 rwa[show f=g from funext hg]at h
theorem EZ{P:Program}{k:TypeId}{R:Value->Option (DataW Unit×List MemPlace)}{es':Array MapEntry}{clock:Nat}(K:Keyed P k)(F:Go.WideElems.Fit P k R es' clock){p:Lit×DataW Unit}
  (hp:p∈(es'.toList.map (Go.WideElems.rg P k R)).foldr DataW.insert []):WideAt.IsKeyLit p.1:=by
 have hp2:=(Go.WideShapes.sorted_perm _).mem_iff.1 hp;obtain⟨x,hx,rfl⟩:=List.mem_map.1 hp2;obtain⟨y,hy⟩:=F.reads x hx;rw[Go.WideElems.rg_of hy];exact K.key (Go.WideElems.rd_key hy)
theorem gN.small{w:World}{b:Nat}{f:Int->Option Int}{D:DataW Unit}(h1:w.ownsMap Tryz.prog 3 (plainElem Tryz.prog 3) b (Maps.size D) D)
  (h2:∀kl,Maps.has D kl=true->∃k:Int,kl=.int .i64 k/\0<=k/\k<=65536/\(f k).isSome=true):Maps.size D<=65537:=by
 obtain⟨es,rfl,hp⟩:=h1.tidy pM
 let num:Lit->Int:=fun l=>match l with | .int _ k=>k|_=>0
 have hk:∀p∈es,∃k:Int,p.1=.int .i64 k/\0<=k/\k<=65536:=fun p hp=>by
  have hh:Maps.has (DataW.map es) p.1=true:=by
   rw[has_eq];refine List.any_eq_true.2 ⟨p,hp,WideAt.sameKey_self ?_⟩;obtain⟨es',clock,_,F,_,he⟩:=h1;have hes:es=(es'.toList.map (Go.WideElems.rg Tryz.prog 3 (plainElem Tryz.prog 3))).foldr DataW.insert []:=by simpa using he
   rw[hes]at hp;exact EZ pM F hp
  obtain⟨k,hk,h3,h4,_⟩:=h2 _ hh;exact⟨k,hk,h3,h4⟩
 have:=nodup_range 65537 (es.map fun p=>num p.1) (by
  unfold List.Nodup;rw[List.pairwise_map];refine(List.Pairwise.imp_of_mem ?_ hp);intro a b ha hb hab e;obtain⟨k1,e1,_⟩:=hk a ha;obtain⟨k2,e2,_⟩:=hk b hb;rw[e1,e2]at e hab;exact hab (by rw[show k1=k2 from e])) (fun x hx=>by
  obtain⟨p,hp,rfl⟩:=List.mem_map.1 hx;obtain⟨k,e,h3,h4⟩:=hk p hp
  rw[e];show 0<=k/\k<((65537:Nat):Int);omega)
 simpa[size_eq]using this
theorem wH{k:Int}(h:-9223372036854775808<=k/\k<=9223372036854775807):keyOf Tryz.prog 3 (.int .i64 k)=some (.int .i64 k):=keyOf_int_mk Tryz.underlying3 (WalkArith.wf_i64 h)
theorem gN.look{w:World}{b:Nat}{f:Int->Option Int}(h:gN w b f)(k:Int)(hk:-9223372036854775808<=k/\k<=9223372036854775807) :
  (Instr.lookup 232 (.map (some b)) (.int .i64 k) false).run Tryz.prog w=.ok (.int .i64 ((f k).getD 0)) w:=by
 obtain⟨D,h1,h2,h3⟩:=h;obtain⟨c,hrun,hat,_⟩:=h1.lookup_int pM Tryz.underlying232 Tryz.underlying3 (DR w) (wH hk);rw[hrun];cases hf:f k with
 | some z=>
  rw[(h3 k z hf).2]at hat;have:z=c:=by simpa using hat
  rw[this];rfl
 | none=>
  have:Maps.has D (.int .i64 k)=false:=by
   cases hh:Maps.has D (.int .i64 k)
   ·rfl
   ·obtain⟨k',e,_,_,h4⟩:=h2 _ hh;cases e;rw[hf]at h4;cases h4
  rw[atKey_of_not_has this]at hat;have:(0:Int)=c:=by simpa using hat
  rw[←this];rfl
theorem gN.look_ok{w:World}{b:Nat}{f:Int->Option Int}(h:gN w b f)(k:Int)(hk:-9223372036854775808<=k/\k<=9223372036854775807) :
  (Instr.lookup 232 (.map (some b)) (.int .i64 k) true).run Tryz.prog w=.ok (.tuple #[.int .i64 ((f k).getD 0),.bool (f k).isSome]) w:=by
 obtain⟨D,h1,h2,h3⟩:=h;obtain⟨v,ps,hrun,hv⟩:=h1.look_ok pM Tryz.underlying232 (DR w) (plainElem_int Tryz.underlying3 (a:=0) δ) (wH hk);obtain⟨c,rfl,hc,_⟩:=plainElem_int_inv Tryz.underlying3 hv;simp only[Prod.mk.injEq]at hc;have hat:=hc.1;rw[hrun];cases hf:f k with
 | some z=>
  rw[(h3 k z hf).2]at hat;rw[(h3 k z hf).1];have:z=c:=by simpa using hat
  rw[this];rfl
 | none=>
  have:Maps.has D (.int .i64 k)=false:=by
   cases hh:Maps.has D (.int .i64 k)
   ·rfl
   ·obtain⟨k',e,_,_,h4⟩:=h2 _ hh;cases e;rw[hf]at h4;cases h4
  rw[atKey_of_not_has this]at hat;rw[this];have:(0:Int)=c:=by simpa using hat
  rw[←this];rfl
theorem oZ{w w':World}{b:Nat}(h:w.mapTurned w' b):aa [b] w w':=(aa.refl [b] w).grown h.grown (fun k hk=>Or.inl (by cases hk;simp))
theorem gN.store{w:World}{b:Nat}{f:Int->Option Int}(h:gN w b f)(k z:Int)(hk:0<=k/\k<=65536)(hz:-9223372036854775808<=z/\z<=9223372036854775807) :
  ∃w',(Instr.mapUpdate 232 (.map (some b)) (.int .i64 k) (.int .i64 z)).run Tryz.prog w=.ok () w'/\gN w' b (fun q=>if q=k then some z else f q)/\aa [b] w w':=by
 obtain⟨D,h1,h2,h3⟩:=h;have hs:=gN.small h1 h2;obtain⟨w',hrun,ho,ht⟩:=h1.store pM Tryz.underlying232 μ (wH (k:=k) ω) (plainElem_int Tryz.underlying3 (a:=z) (WalkArith.wf_i64 hz));have hD:=h1.isMap;refine⟨w',hrun,⟨_,wE ho,fun kl hkl=>?_,fun q y hq=>?_⟩,oZ ht⟩
 ·by_cases e:kl=.int .i64 k
  ·exact⟨k,e,hk.1,hk.2,σ⟩
  ·rw[has_put_other e]at hkl;obtain⟨q,rfl,a,b,c⟩:=h2 kl hkl;refine⟨q,rfl,a,b,?_⟩
   show(if q=k then some z else f q).isSome=true
   split
   ·rfl
   ·exact c
 ·by_cases e:q=k
  ·subst e;simp only[if_true,Option.some.injEq]at hq;subst hq;exact⟨has_put_same hD (show WideAt.IsKeyLit (.int .i64 q)from True.intro) _,fun d=>atKey_put_same hD (show WideAt.IsKeyLit (.int .i64 q)from True.intro) _ _⟩
  ·simp only[if_neg e]at hq;have hne:(Lit.int .i64 q)≠.int .i64 k:=fun h=>e (by cases h;rfl);rw[has_put_other hne];exact⟨(h3 q y hq).1,fun d=>by rw[atKey_put_other hne];exact(h3 q y hq).2 d⟩
theorem gN.drop{w:World}{b:Nat}{f:Int->Option Int}(h:gN w b f)(k:Int)(hk:-9223372036854775808<=k/\k<=9223372036854775807)(ty:TypeId) :
  ∃w',(Builtin.delete_ #[232,3] ty #[.map (some b),.int .i64 k]).run Tryz.prog w=.ok (.tuple #[]) w'/\gN w' b (fun q=>if q=k then none else f q)/\aa [b] w w':=by
 obtain⟨D,h1,h2,h3⟩:=h;obtain⟨w',hrun,ho,ht⟩:=h1.drop pM Tryz.underlying232 (wH hk) ty;refine⟨w',hrun,⟨_,wE ho,fun kl hkl=>?_,fun q y hq=>?_⟩,oZ ht⟩
 ·by_cases e:kl=.int .i64 k
  ·subst e;rw[has_del_same]at hkl;cases hkl
  ·rw[has_del_other e]at hkl;obtain⟨q,rfl,a,b,c⟩:=h2 kl hkl;exact⟨q,rfl,a,b,by show(if q=k then none else f q).isSome=true;rw[if_neg (fun h=>e (by rw[h]))];exact c⟩
 ·by_cases e:q=k
  ·subst e;simp at hq
  ·simp only[if_neg e]at hq;have hne:(Lit.int .i64 q)≠.int .i64 k:=fun h=>e (by cases h;rfl);rw[has_del_other hne];exact⟨(h3 q y hq).1,fun d=>by rw[atKey_del_other hne];exact(h3 q y hq).2 d⟩
theorem gN.made(w:World):gN (w.alloc (.map #[] 0)) w.heap.size (fun _=>none):=
 ⟨.map [],World.ownsMap_made w _ _ _,fun kl hkl=>by simp[has_eq]at hkl,fun k z hz=>by cases hz⟩
theorem mJ{w:World}{ops:Array Oper}{rest:List Oper}{o:Oper}{a:Act}{Q:Exit->Act->World->Prop}(hg:o.guard=none)(m x v:Operand)(hop:o.op=Op.mapUpdate 232 m x v)
  (b:Nat) (f:Int->Option Int) (hm:a.eval m=.map (some b)) (h:gN w b f) (k z:Int) (hx:a.eval x=.int .i64 k) (hv:a.eval v=.int .i64 z) (hk:0<=k/\k<=65536) (hz:-9223372036854775808<=z/\z<=9223372036854775807)
  (hK:∀w',gN w' b (fun q=>if q=k then some z else f q)->aa [b] w w'->wpList Tryz.prog ops Q rest (a.put o.dst undef) w'):wpList Tryz.prog ops Q (o::rest) a w:=by
 refine wpList_plain hg fun K' hK'=>?_;obtain⟨w',hrun,r1,r2⟩:=h.store k z hk hz;unfold Oper.wp;simp[execOp,hop,hm,hx,hv,hrun,Result.andThen];exact hK' _ _ (hK w' r1 r2)
theorem oM{w:World}{ops:Array Oper}{rest:List Oper}{o:Oper}{a:Act}{Q:Exit->Act->World->Prop}(hg:o.guard=none)(m x:Operand)(hop:o.op=Op.call { callee:=Callee.builtin Builtin.delete,args:=#[m,x],argTypes:=#[232,3] })
  (b:Nat) (f:Int->Option Int) (hm:a.eval m=.map (some b)) (h:gN w b f) (k:Int) (hx:a.eval x=.int .i64 k) (hk:-9223372036854775808<=k/\k<=9223372036854775807)
  (hK:∀w',gN w' b (fun q=>if q=k then none else f q)->aa [b] w w'->wpList Tryz.prog ops Q rest (a.put o.dst (.tuple #[])) w'):wpList Tryz.prog ops Q (o::rest) a w:=by
 refine wpList_plain hg fun K' hK'=>?_;obtain⟨w',hrun,r1,r2⟩:=h.drop k hk o.type;unfold Oper.wp;simp[execOp,hop,resolve,invoke,builtin,hm,hx,hrun,Result.andThen];exact hK' _ _ (hK w' r1 r2)
theorem lM{w:World}{ops:Array Oper}{rest:List Oper}{o:Oper}{a:Act}{Q:Exit->Act->World->Prop}(hg:o.guard=none)(m x:Operand)(hop:o.op=Op.lookup 232 m x false)
  (b:Nat) (f:Int->Option Int) (hm:a.eval m=.map (some b)) (h:gN w b f) (k:Int) (hx:a.eval x=.int .i64 k) (hk:-9223372036854775808<=k/\k<=9223372036854775807) (z:Int) (hz:(f k).getD 0=z)
  (hK:wpList Tryz.prog ops Q rest (a.put o.dst (.int .i64 z)) w):wpList Tryz.prog ops Q (o::rest) a w:=by
 refine wpList_plain hg fun K' hK'=>?_;have hrun:=h.look k hk;rw[hz]at hrun;unfold Oper.wp;simp[execOp,hop,hm,hx,hrun,Result.andThen];exact hK' _ _ hK
theorem mY{w:World}{ops:Array Oper}{rest:List Oper}{o:Oper}{a:Act}{Q:Exit->Act->World->Prop}(hg:o.guard=none)(m x:Operand)(hop:o.op=Op.lookup 232 m x true)
  (b:Nat) (f:Int->Option Int) (hm:a.eval m=.map (some b)) (h:gN w b f) (k:Int) (hx:a.eval x=.int .i64 k) (hk:-9223372036854775808<=k/\k<=9223372036854775807)
  (hK:wpList Tryz.prog ops Q rest (a.put o.dst (.tuple #[.int .i64 ((f k).getD 0),.bool (f k).isSome])) w):wpList Tryz.prog ops Q (o::rest) a w:=by
 refine wpList_plain hg fun K' hK'=>?_;have hrun:=h.look_ok k hk;unfold Oper.wp;simp[execOp,hop,hm,hx,hrun,Result.andThen];exact hK' _ _ hK
end Go.Proofs.YtklibcncmbofpaaGreat
namespace Go.Proofs.YtklibcncmbofpaaGreat
open Go Go.RowKit
def kN(raw:Nat->Cl)(j:Nat):Value:=if j % 3=0 then .int .i64 (raw (j / 3)).i else if j % 3=1 then .int .i64 (raw (j / 3)).k else .int .u64 (raw (j / 3)).s
theorem Lp(raw:Nat->Cl)(x:Nat):kN raw (x*3)=.int .i64 (raw x).i:=by unfold kN;rw[if_pos ω,show x*3 / 3=x by omega]
theorem ze(raw:Nat->Cl)(x:Nat):kN raw (x*3+1)=.int .i64 (raw x).k:=by unfold kN;rw[if_neg ω,if_pos ω,show(x*3+1) / 3=x by omega]
theorem zh(raw:Nat->Cl)(x:Nat):kN raw (x*3+2)=.int .u64 (raw x).s:=by unfold kN;rw[if_neg ω,if_neg ω,show(x*3+2) / 3=x by omega]
def jG(A:NS)(h:Int):Option Int:=if 0<dO A h then some (dO A h:Int)else none
theorem tY(A:NS)(h:Int):(jG A h).getD 0=dO A h:=by unfold jG;split;rfl;simp;omega
structure CM(w:World)(c ca nm mb g cap:Nat)(l:List Int)(rt dp:Nat->Nat)(raw:Nat->Cl)(A:NS)(st:Nat):Prop where
 head:aL w c 245 4 (fun j=>[Value.int .i64 (st:Int),.slice (some ⟨ca,0,none⟩) A.cs.length A.cs.length,.pointer (some ⟨nm,0,none⟩),.map (some mb)].getD j undef)
 row:aL w ca 281 (A.cs.length*3) (kN raw)
 Xy:j6 w nm g cap l
 many:gN w mb (jG A)
 QE:rM l rt dp
 ok:A.Ok
 pF:st<=4611686018427387904
 rel:∀x,x<A.cs.length->(raw x=Cl.z/\A.c x=Cl.z)\/(1<=(raw x).i/\(raw x).i<l.length/\A.c x=⟨rt (raw x).i.toNat,(raw x).k,(raw x).s⟩)
 hlen:A.hs.length=l.length
 has:∀i,1<=i->i<l.length->A.hs.getD i false=decide (l.getD i 0=i)
 sep:(c≠ca/\c≠nm/\c≠mb/\c≠g)/\(ca≠nm/\ca≠mb/\ca≠g)/\(nm≠mb/\mb≠g)
theorem CM.upd{w w':World}{S:List Nat}{c ca nm mb g cap:Nat}{l:List Int}{rt dp:Nat->Nat}{raw:Nat->Cl}{A:NS}{st:Nat}(h:CM w c ca nm mb g cap l rt dp raw A st)(hu:aa S w w')(hS:∀x,x∈S->x∉[c,ca,nm,mb,g]):CM w' c ca nm mb g cap l rt dp raw A st:=
 ⟨h.head.upd hu (fun m=>hS _ m σ),h.row.upd hu (fun m=>hS _ m σ),h.Xy.upd hu (fun m=>hS _ m σ) (fun m=>hS _ m σ),h.many.upd hu (fun m=>hS _ m σ),h.QE,h.ok,h.pF,h.rel,h.hlen,h.has,h.sep⟩
def aF(w:World)(c:Nat)(F:List Nat)(A:NS)(st:Nat):Prop:=∃ca nm mb g cap l rt dp raw,CM w c ca nm mb g cap l rt dp raw A st/\F=[c,ca,nm,mb,g]
theorem aF.upd{w w':World}{S F:List Nat}{c:Nat}{A:NS}{st:Nat}(h:aF w c F A st)(hu:aa S w w')(hS:∀x,x∈S->x∉F):aF w' c F A st:=by
 obtain⟨ca,nm,mb,g,cap,l,rt,dp,raw,h,rfl⟩:=h;exact⟨ca,nm,mb,g,cap,l,rt,dp,raw,h.upd hu hS,rfl⟩
theorem aF.au{w w':World}{F:List Nat}{c:Nat}{A:NS}{st:Nat}(h:aF w c F A st)(hu:aa [] w w'):aF w' c F A st:=h.upd hu σ
theorem aF.ok{w:World}{F:List Nat}{c:Nat}{A:NS}{st:Nat}(h:aF w c F A st):A.Ok:=by
 obtain⟨ca,nm,mb,g,cap,l,rt,dp,raw,h,rfl⟩:=h;exact h.ok
theorem aF.pF{w:World}{F:List Nat}{c:Nat}{A:NS}{st:Nat}(h:aF w c F A st):st<=4611686018427387904:=by
 obtain⟨ca,nm,mb,g,cap,l,rt,dp,raw,h,rfl⟩:=h;exact h.pF
theorem aF.lt{w:World}{F:List Nat}{c:Nat}{A:NS}{st:Nat}(h:aF w c F A st):∀x,x∈F->x<w.heap.size:=by
 obtain⟨ca,nm,mb,g,cap,l,rt,dp,raw,h,rfl⟩:=h;intro x hx;have:=h.head.lt;have:=h.row.lt;have:=h.Xy.lt;have:=h.many.lt;simp at hx;omega
theorem aF.mem{w:World}{F:List Nat}{c:Nat}{A:NS}{st:Nat}(h:aF w c F A st):c∈F:=by
 obtain⟨ca,nm,mb,g,cap,l,rt,dp,raw,h,rfl⟩:=h;simp
def Goes(F:List Nat)(w w':World)(P:List Nat->Prop):Prop:=∃F',P F'/\aa F w w'/\∀x,x∈F'->x∈F\/w.heap.size<=x
theorem Goes.stay{F:List Nat}{w w':World}{P:List Nat->Prop}(h:P F)(hu:aa F w w'):Goes F w w' P:=⟨F,h,hu,fun x hx=>Or.inl hx⟩
section
variable {w:World}{c ca nm mb g cap:Nat}{l:List Int}{rt dp:Nat->Nat}{raw:Nat->Cl}{A:NS}{st:Nat}
theorem CM.c0(h:CM w c ca nm mb g cap l rt dp raw A st):w.cell? ⟨c,0,none⟩=some (.int .i64 (st:Int)):=h.head.cellAt 0 ω rfl
theorem CM.c1(h:CM w c ca nm mb g cap l rt dp raw A st):w.cell? ⟨c,1,none⟩=some (.slice (some ⟨ca,0,none⟩) A.cs.length A.cs.length):=h.head.cellAt 1 ω rfl
theorem CM.c2(h:CM w c ca nm mb g cap l rt dp raw A st):w.cell? ⟨c,2,none⟩=some (.pointer (some ⟨nm,0,none⟩)):=h.head.cellAt 2 ω rfl
theorem CM.c3(h:CM w c ca nm mb g cap l rt dp raw A st):w.cell? ⟨c,3,none⟩=some (.map (some mb)):=h.head.cellAt 3 ω rfl
theorem CM.Zv(h:CM w c ca nm mb g cap l rt dp raw A st){x:Nat}(hx:x<A.cs.length):decide (0<(A.c x).i)=decide (0<(raw x).i):=by
 rcases h.rel x hx with⟨h1,h2⟩|⟨h1,h2,h3⟩
 ·rw[h1,h2]
 ·have:=h.QE.XU (i:=(raw x).i.toNat) ω ω;rw[h3,decide_eq_decide];simp only;omega
theorem CM.FN(h:CM w c ca nm mb g cap l rt dp raw A st)(x:Int):FN l x=bJ A x:=by
 unfold Go.Proofs.YtklibcncmbofpaaGreat.FN bJ;rw[h.hlen]
 by_cases hx:0<x/\x<l.length
 ·rw[h.has x.toNat ω ω,Bool.eq_iff_iff];simp only[Bool.and_eq_true,decide_eq_true_eq,beq_iff_eq];constructor
  ·rintro⟨_,h2⟩;exact⟨⟨ω,ω⟩,ω⟩
  ·rintro⟨_,h2⟩;exact⟨⟨ω,ω⟩,ω⟩
 ·have e1:(decide (0<x) && decide (x<(l.length:Int)))=false:=ζ;have e2:(decide (1<=x) && decide (x<(l.length:Int)))=false:=ζ;rw[e1,e2];rfl
end
theorem jN{w:World}{c st:Nat}{F:List Nat}{A:NS}(h:aF w c F A st)(x:Int) :
  Calls Tryz.prog 139 #[.pointer (some ⟨c,0,none⟩),.int .i64 x] w fun e w'=>e=.returned (.bool (bJ A x))/\w'=w:=by
 obtain⟨ca,nm,mb,g,cap,l,rt,dp,raw,h,rfl⟩:=h;have c2:=h.c2;have k:=SQ nm g cap l x w h.Xy h.QE.Qg;rw[h.FN]at k;clear h
 go_enter Tryz.func139,Tryz.ntmps139
 go_wp2_with ((go_at_call 152;(with_reducible refine(k).mono ?_);rintro e w9 ⟨rfl,aJ⟩;rw[aJ];clear aJ w9))
 go_ret;exact⟨rfl,rfl⟩
theorem pV{w:World}{c st:Nat}{F:List Nat}{A:NS}(h:aF w c F A st)(x:Int)(hx:-9223372036854775808<=x/\x<=9223372036854775807) :
  Calls Tryz.prog 142 #[.pointer (some ⟨c,0,none⟩),.int .i64 x] w fun e w'=>e=.returned (.int .i64 (dO A x:Int))/\w'=w:=by
 obtain⟨ca,nm,mb,g,cap,l,rt,dp,raw,h,rfl⟩:=h;have c3:=h.c3;have hl:=h.many.look x hx;rw[tY]at hl;clear h
 go_enter Tryz.func142,Tryz.ntmps142
 go_wp2;go_ret;exact⟨rfl,rfl⟩
theorem Av{w:World}{c st:Nat}{F:List Nat}{A:NS}(h:aF w c F A st)(x:Int) :
  Calls Tryz.prog 160 #[.pointer (some ⟨c,0,none⟩),.int .i64 x] w fun e w'=>e=.returned (.bool (wP A x))/\w'=w:=by
 obtain⟨ca,nm,mb,g,cap,l,rt,dp,raw,h,rfl⟩:=h;have c1:=h.c1;have h1:=h.ok.c1;clear h;unfold wP
 by_cases h0:0<=x
 ·go_enter Tryz.func160,Tryz.ntmps160
  go_wp2;go_ret;exact⟨aT (by simp[h0]),rfl⟩
 ·go_enter Tryz.func160,Tryz.ntmps160
  go_wp2;go_ret;exact⟨aT ζ,rfl⟩
theorem qY{w:World}{c st:Nat}{F:List Nat}{A:NS}(h:aF w c F A st)(x:Int) :
  Calls Tryz.prog 149 #[.pointer (some ⟨c,0,none⟩),.int .i64 x] w fun e w'=>e=.returned (.bool (bS A x))/\w'=w:=by
 have k:=Av h x;obtain⟨ca,nm,mb,g,cap,l,rt,dp,raw,h,rfl⟩:=h;have c1:=h.c1;have h1:=h.ok.c1;unfold bS;cases hs:wP A x
 ·rw[hs]at k;clear h
  go_enter Tryz.func149,Tryz.ntmps149
  go_wp2_with ((go_at_call 160;(with_reducible refine(k).mono ?_);rintro e w9 ⟨rfl,aJ⟩;rw[aJ];clear aJ w9))
  go_ret;exact⟨rfl,rfl⟩
 ·rw[hs]at k;have hx:=(gU _ _).1 hs;obtain⟨i,rfl⟩:∃i:Nat,x=i:=⟨x.toNat,ω⟩;have hi:i<A.cs.length:=ω;have d0:=h.row.cellAt (i*3) ω (Lp raw i);simp only[π];rw[h.Zv hi];clear h hs
  go_enter Tryz.func149,Tryz.ntmps149
  go_wp2_with ((go_at_call 160;(with_reducible refine(k).mono ?_);rintro e w9 ⟨rfl,aJ⟩;rw[aJ];clear aJ w9))
  go_ret;exact⟨aT σ,rfl⟩
theorem row3{w:World}{ca m i:Nat}{e:TypeId}{raw:Nat->Cl}(h:aL w ca e m (kN raw))(cl:Cl) :
  aL (((w.setCell ⟨ca,i*3,none⟩ (.int .i64 cl.i)).setCell ⟨ca,i*3+1,none⟩ (.int .i64 cl.k)).setCell ⟨ca,i*3+2,none⟩ (.int .u64 cl.s)) ca e m (kN (fun y=>if y=i then cl else raw y)):=by
 refine(((h.set _ _).set _ _).set _ _).ext (fun j hj=>?_);simp only[kN]
 by_cases e0:j=i*3+2
 ·rw[if_pos e0,if_neg ω,if_neg ω,if_pos ω]
 ·rw[if_neg e0]
  by_cases e1:j=i*3+1
  ·rw[if_pos e1,if_neg ω,if_pos ω,if_pos ω]
  ·rw[if_neg e1]
   by_cases e2:j=i*3
   ·rw[if_pos e2,if_pos ω,if_pos ω]
   ·rw[if_neg e2,if_neg (show ¬j / 3=i by omega)]
theorem row2{w:World}{ca m i:Nat}{e:TypeId}{raw:Nat->Cl}(h:aL w ca e m (kN raw))(k s:Int) :
  aL ((w.setCell ⟨ca,i*3+1,none⟩ (.int .i64 k)).setCell ⟨ca,i*3+2,none⟩ (.int .u64 s)) ca e m (kN (fun y=>if y=i then ⟨(raw i).i,k,s⟩else raw y)):=by
 refine((h.set _ _).set _ _).ext (fun j hj=>?_);simp only[kN]
 by_cases e0:j=i*3+2
 ·rw[if_pos e0,if_neg ω,if_neg ω,if_pos ω]
 ·rw[if_neg e0]
  by_cases e1:j=i*3+1
  ·rw[if_pos e1,if_neg ω,if_pos ω,if_pos ω]
  ·rw[if_neg e1]
   by_cases e2:j=i*3
   ·rw[if_pos ω,if_pos ω,if_pos ω,show j / 3=i by omega]
   ·rw[if_neg (show ¬j / 3=i by omega)]
section
variable {w:World}{c ca nm mb g cap:Nat}{l:List Int}{rt dp:Nat->Nat}{raw:Nat->Cl}{A:NS}{st:Nat}
theorem CM.turn(h:CM w c ca nm mb g cap l rt dp raw A st){w2:World}{GJ:Nat->Cl}{A':NS}(hu:aa [ca,mb] w w2)(hrow:aL w2 ca 281 (A.cs.length*3) (kN GJ))(hm:gN w2 mb (jG A'))(hok:A'.Ok)
  (hlen:A'.cs.length=A.cs.length) (lT:A'.hs=A.hs) (hrel:∀x,x<A.cs.length->(GJ x=Cl.z/\A'.c x=Cl.z)\/(1<=(GJ x).i/\(GJ x).i<l.length/\A'.c x=⟨rt (GJ x).i.toNat,(GJ x).k,(GJ x).s⟩)) :
  CM w2 c ca nm mb g cap l rt dp GJ A' st:=by
 have s:=h.sep;refine⟨?_,by rw[hlen];exact hrow,h.Xy.upd hu ι ι,hm,h.QE,hok,h.pF,by rw[hlen];exact hrel,by rw[lT];exact h.hlen,by rw[lT];exact h.has,s⟩;rw[hlen];exact h.head.upd hu ι
theorem CM.ZJ(h:CM w c ca nm mb g cap l rt dp raw A st){i:Nat}(hi:bJ A i=true):1<=i/\i<l.length/\rt i=i/\l.getD i 0=i:=by
 rw[←h.FN]at hi;unfold Go.Proofs.YtklibcncmbofpaaGreat.FN at hi;simp only[Bool.and_eq_true,decide_eq_true_eq,beq_iff_eq,π]at hi;exact⟨ω,ω,h.QE.top i ω ω hi.2,hi.2⟩
end
def Ze(l:List Int)(rt:Nat->Nat)(cr ca:Cl):Prop:=(cr=Cl.z/\ca=Cl.z)\/(1<=cr.i/\cr.i<l.length/\ca=⟨rt cr.i.toNat,cr.k,cr.s⟩)
theorem zG{l:List Int}{rt:Nat->Nat}{raw:Nat->Cl}{A:NS}{x:Nat}{cr ca:Cl}(h:∀y,y<A.cs.length->Ze l rt (raw y) (A.c y))(hx:x<A.cs.length)(hc:Ze l rt cr ca) :
  ∀y,y<A.cs.length->Ze l rt (if y=x then cr else raw y) ((jc A x ca).c y):=by
 intro y hy;rw[kH]
 by_cases e:y=x
 ·simp only[e,hx,and_self,if_true];exact hc
 ·simp only[e,false_and,if_false];exact h y hy
theorem JE{A:NS}{x:Nat}{c:Cl}(h:Int)(hx:x<A.cs.length)(hz:(A.c x).i=0)(hc:0<c.i)(q:Int):(if q=c.i then some ((dO A c.i:Int)+1)else jG A q)=jG (jc A x c) q:=by
 have:=nO A x c q hx;rw[hz]at this;unfold jG
 by_cases e:q=c.i
 ·subst e;rw[if_pos rfl];rw[if_neg ω,if_pos ⟨rfl,hc⟩]at this;simp only[Nat.add_zero]at this;rw[if_pos ω,this];simp
 ·rw[if_neg e];rw[if_neg ω,if_neg ω]at this;simp only[Nat.add_zero]at this;rw[this]
theorem nW{w:World}{c st:Nat}{F:List Nat}{A:NS}(h:aF w c F A st)(hh x:Nat)(k s:Int)(hk:-9223372036854775808<=k/\k<=9223372036854775807/\0<=s/\s<=18446744073709551615)(hB:oG A hh x=true) :
  Calls Tryz.prog 154 #[.pointer (some ⟨c,0,none⟩),.int .i64 (hh:Int),.int .i64 (x:Int),.agg #[.int .i64 k,.int .u64 s]] w fun e w'=>e=.returned (.bool true)/\aF w' c F (aK A hh x k s) st/\aa F w w':=by
 have k1:=fun W hW=>jN (h.au (w':=W) hW) hh;have k2:=fun W hW=>Av (h.au (w':=W) hW) x;have k3:=fun W hW=>qY (h.au (w':=W) hW) x;have hu:aa [] w (w.alloc (.cells #[.int .i64 k,.int .u64 s] 129)):=(aa.refl _ _).alloc _;have hp:=(fB _ _ _).1 hB;rw[hp.1]at k1;rw[hp.2.1]at k2;rw[hp.2.2]at k3;have hx:=(gU _ _).1 hp.2.1;have Fq:=(aV _ _).1 hp.1;have hAz:(A.c x).i<=0:=by have:=hp.2.2;unfold bS at this;rw[hp.2.1]at this;simpa using this
 have hin:(A.c x).i=0:=by have:=h.ok.nat x ω;omega
 have hlen:=D7 h.ok (hh:Int);have hA1:=h.ok.h1;have hA2:=h.ok.c1;obtain⟨ca,nm,mb,g,cap,l,rt,dp,raw,h,rfl⟩:=h;have c1:=h.c1;have c3:=h.c3;have d0:=h.row.cell (x*3) ω;have d1:=h.row.cell (x*3+1) ω;have d2:=h.row.cell (x*3+2) ω;have f0:=h.row.free (x*3);have f1:=h.row.free (x*3+1);have f2:=h.row.free (x*3+2);have hlt:=aF.lt ⟨ca,nm,mb,g,cap,l,rt,dp,raw,h,rfl⟩;have l1:=hlt c σ;have l2:=hlt ca σ;have l3:=hlt mb σ;have hs:=h.sep;have H:=χ h;have HP:=χ hp;clear h hp hB hlt;obtain⟨len,hle⟩:∃n,n=A.cs.length:=⟨_,rfl⟩;rw[←hle]at c1 hx;have HL:=χ hle;clear hle;have hx2:x<len:=ω
 go_enter Tryz.func154,Tryz.ntmps154
 go_wp2_with (first|(go_at_call 139;(with_reducible refine((k1 _ hu)).mono ?_);rintro e w9 ⟨rfl,aJ⟩;rw[aJ];clear aJ w9)|(go_at_call 160;(with_reducible refine((k2 _ hu)).mono ?_);rintro e w9 ⟨rfl,aJ⟩;rw[aJ];clear aJ w9)|(go_at_call 149;(with_reducible refine((k3 _ hu)).mono ?_);rintro e w9 ⟨rfl,aJ⟩;rw[aJ];clear aJ w9))
 go_region
 go_wp2_with (first
  | (at_lookup;refine lM rfl _ _ rfl mb (jG A) rfl (H.out.many.upd (S:=[ca]) β ι) (hh:Int) rfl ω (dO A (hh:Int):Int) (tY _ _) ?_)
  | (at_mapUpdate;refine mJ rfl _ _ _ rfl mb (jG A) rfl (H.out.many.upd (S:=[ca]) β ι) (hh:Int) ((dO A (hh:Int):Int)+1) rfl rfl ω ω ?_;intro w2 hm2 hu2))
 go_ret;have hu3:aa [ca] w ((((w.setCell ⟨ca,x*3,none⟩ (.int .i64 (hh:Int))).setCell ⟨ca,x*3+1,none⟩ (.int .i64 k)).setCell ⟨ca,x*3+2,none⟩ (.int .u64 s)).alloc (.cells #[.int .i64 k,.int .u64 s] 129)).drew:=β;have hr3:=((row3 (i:=x) H.out.row ⟨(hh:Int),k,s⟩).upd ((aa.refl [] _).alloc (.cells #[.int .i64 k,.int .u64 s] 129) |>.drew) σ).upd hu2 ι;have gX:aa [ca,mb] w w2:=(hu3.mono ι).joined hu2 (fun y hy=>Or.inl (by simp at hy;simp[hy]));have hrt:=H.out.ZJ HP.out.1;have hxl:x<A.cs.length:=by rw[←HL.out];exact hx2
 have e:aK A (hh:Int) (x:Int) k s=jc A x ⟨(hh:Int),k,s⟩:=by unfold aK;rw[if_pos ((fB _ _ _).2 HP.out)];simp
 refine⟨rfl,⟨ca,nm,mb,g,cap,l,rt,dp,fun y=>if y=x then ⟨(hh:Int),k,s⟩else raw y,?_,rfl⟩,gX.mono ι⟩;rw[e];refine H.out.turn gX hr3 (hm2.ext (fun q=>JE (c:=⟨(hh:Int),k,s⟩) (hh:Int) hxl hin (by show 0<(hh:Int);omega) q)) (by rw[←e];exact zm H.out.ok _ _ _ _ hk) (fI _ _ _) rfl (zG H.out.rel hxl (Or.inr ⟨by show 1<=(hh:Int);omega,by show(hh:Int)<l.length;omega,by rw[π,hrt.2.2.1]⟩))
theorem l8{w:World}{c st:Nat}{F:List Nat}{A:NS}(h:aF w c F A st)(x:Int)(hx:bS A x=false) :
  Calls Tryz.prog 137 #[.pointer (some ⟨c,0,none⟩),.int .i64 x] w fun e w'=>e=.returned (.tuple #[.agg #[.int .i64 0,.int .u64 0],.bool false])/\aa [] w w':=by
 have hu:aa [] w (w.alloc (.cells #[.int .i64 0,.int .u64 0] 129)):=(aa.refl _ _).alloc _;have k:=qY (h.au hu) x;rw[hx]at k;clear h hx
 go_enter Tryz.func137,Tryz.ntmps137
 go_wp2_with ((go_at_call 149;(with_reducible refine(k).mono ?_);rintro e w9 ⟨rfl,aJ⟩;rw[aJ];clear aJ w9))
 exact bodyPost_ret (v:=.tuple #[.agg #[.int .i64 0,.int .u64 0],.bool false]) (by simp[results,Tryz.results137,go_sem]) rfl ⟨rfl,ξ⟩
theorem j5{w:World}{c st:Nat}{F:List Nat}{A:NS}(h:aF w c F A st)(x:Nat)(hx:bS A x=true) :
  Calls Tryz.prog 137 #[.pointer (some ⟨c,0,none⟩),.int .i64 (x:Int)] w fun e w'=>e=.returned (.tuple #[.agg #[.int .i64 (A.c x).k,.int .u64 (A.c x).s],.bool true])/\aa [] w w':=by
 have hu:aa [] w (w.alloc (.cells #[.int .i64 0,.int .u64 0] 129)):=(aa.refl _ _).alloc _;have k:=qY (h.au hu) x;rw[hx]at k;obtain⟨hx1,hx2⟩:=(ah _ _).1 hx;obtain⟨ca,nm,mb,g,cap,l,rt,dp,raw,h,rfl⟩:=h;have e:A.c x=⟨rt (raw x).i.toNat,(raw x).k,(raw x).s⟩:=by
  rcases h.rel x hx1 with⟨h1,h2⟩|⟨h1,h2,h3⟩
  ·rw[h2]at hx2;exact absurd hx2 δ
  ·exact h3
 rw[e];have c1:=h.c1;have d1:=h.row.cellAt (x*3+1) ω (ze raw x);have d2:=h.row.cellAt (x*3+2) ω (zh raw x);have hA:=h.ok.c1;have l1:=h.head.lt;have l2:=h.row.lt;clear h hx hx2 e
 go_enter Tryz.func137,Tryz.ntmps137
 go_wp2_with ((go_at_call 149;(with_reducible refine(k).mono ?_);rintro e w9 ⟨rfl,aJ⟩;rw[aJ];clear aJ w9))
 exact bodyPost_ret (v:=.tuple #[.agg #[.int .i64 (raw x).k,.int .u64 (raw x).s],.bool true]) (by simp[results,Tryz.results137,go_sem]) rfl ⟨rfl,ξ⟩
theorem CM.YT{w:World}{c ca nm mb g cap:Nat}{l l':List Int}{rt dp:Nat->Nat}{raw:Nat->Cl}{A:NS}{st:Nat}(h:CM w c ca nm mb g cap l rt dp raw A st){w':World}(hN:j6 w' nm g cap l')(ok:rM l' rt dp)(hl:l'.length=l.length)(hu:aa [g] w w') :
  CM w' c ca nm mb g cap l' rt dp raw A st:=by
 have s:=h.sep;refine⟨h.head.upd hu ι,h.row.upd hu ι,hN,h.many.upd hu ι,ok,h.ok,h.pF,by rw[hl];exact h.rel,by rw[hl];exact h.hlen,fun i h1 h2=>?_,s⟩;rw[hl]at h2;rw[h.has i h1 h2,decide_eq_decide,h.QE.Sw h1 h2,ok.Sw h1 (by rw[hl];exact h2)]
theorem dQ{w:World}{c st:Nat}{F:List Nat}{A:NS}(h:aF w c F A st)(x:Nat)(hx:bS A x=true) :
  Calls Tryz.prog 140 #[.pointer (some ⟨c,0,none⟩),.int .i64 (x:Int)] w fun e w'=>e=.returned (.tuple #[.int .i64 (A.c x).i,.bool true])/\aF w' c F A st/\aa F w w':=by
 have k:=qY h x;rw[hx]at k;obtain⟨hx1,hx2⟩:=(ah _ _).1 hx;obtain⟨ca,nm,mb,g,cap,l,rt,dp,raw,h,rfl⟩:=h;have e:1<=(raw x).i/\(raw x).i<l.length/\A.c x=⟨rt (raw x).i.toNat,(raw x).k,(raw x).s⟩:=by
  rcases h.rel x hx1 with⟨h1,h2⟩|h3
  ·rw[h2]at hx2;exact absurd hx2 δ
  ·exact h3
 obtain⟨r,hr⟩:∃r:Nat,(raw x).i=r:=⟨(raw x).i.toNat,ω⟩;rw[e.2.2,hr,π];have c1:=h.c1;have c2:=h.c2;have d0:=h.row.cellAt (x*3) ω (Lp raw x);rw[hr]at d0 e;have hA:=h.ok.c1;have hs:=h.sep;have H:=χ h;have hr1:1<=r:=ω;have hr2:r<l.length:=ω;clear h hx hx2 e hr
 go_enter Tryz.func140,Tryz.ntmps140
 go_wp2_with ((go_at_call 149;(with_reducible refine(k).mono ?_);rintro e w9 ⟨rfl,aJ⟩;rw[aJ];clear aJ w9))
 have r1:∀W,aa [g] w W->W.cell? ⟨c,1,none⟩=some (.slice (some ⟨ca,0,none⟩) A.cs.length A.cs.length):=fun W hW=>by rw[hW.cell H.out.head.lt ι];exact c1
 have r2:∀W,aa [g] w W->W.cell? ⟨c,2,none⟩=some (.pointer (some ⟨nm,0,none⟩)):=fun W hW=>by rw[hW.cell H.out.head.lt ι];exact c2
 have r3:∀W,aa [g] w W->W.cell? ⟨ca,x*3,none⟩=some (.int .i64 (r:Int)):=fun W hW=>by rw[hW.cell H.out.row.lt ι];exact d0
 go_region_held3 (aa [g] w) (exact η)
  ((go_at_call 153;(with_reducible refine(Oi nm g cap l rt dp r _ (H.out.Xy.upd (S:=[]) β σ σ) H.out.QE hr1 hr2).mono ?_);rintro e w1 ⟨l',rfl,hN,hok,hlen,hu⟩;have hu':aa [g] w w1:=(by first|exact hu|exact((aa.refl [g] w).drew.trans hu)|exact((aa.refl [g] w).drewN _ |>.trans hu))))
 go_wp2;go_ret2;exact⟨rfl,⟨ca,nm,mb,g,cap,l',rt,dp,raw,H.out.YT hN hok hlen hu',rfl⟩,hu'.mono ι⟩
theorem J7{A A':NS}(h:∀q,dO A' q=dO A q):jG A'=jG A:=by
 funext q;unfold jG;rw[h q]
theorem iE{w:World}{c st:Nat}{F:List Nat}{A:NS}(h:aF w c F A st)(i:Nat)(k s:Int)(hk:-9223372036854775808<=k/\k<=9223372036854775807/\0<=s/\s<=18446744073709551615)(hB:jg A i k s=true) :
  Calls Tryz.prog 147 #[.pointer (some ⟨c,0,none⟩),.int .i64 (i:Int),.agg #[.int .i64 k,.int .u64 s]] w fun e w'=>e=.returned (.bool true)/\aF w' c F (ay A i k s) st/\aa F w w':=by
 have hu0:aa [] w (w.alloc (.cells #[.int .i64 k,.int .u64 s] 129)):=(aa.refl _ _).alloc _;have k3:=fun W (hW:aa [] (w.alloc (.cells #[.int .i64 k,.int .u64 s] 129)) W)=>qY (h.au (hu0.trans hW)) i;have hB0:=χ hB;unfold jg at hB;simp only[Bool.and_eq_true,Bool.not_eq_true',π]at hB;obtain⟨e,hl⟩:=hB;rw[e]at k3;obtain⟨hi,hx2⟩:=(ah _ _).1 e;obtain⟨ca,nm,mb,g,cap,l,rt,dp,raw,h,rfl⟩:=h;have ee:1<=(raw i).i/\(raw i).i<l.length/\A.c i=⟨rt (raw i).i.toNat,(raw i).k,(raw i).s⟩:=by
  rcases h.rel i hi with⟨h1,h2⟩|h3
  ·rw[h2]at hx2;exact absurd hx2 δ
  ·exact h3
 rw[ee.2.2]at hl;have c1:=h.c1;have d1:=h.row.cellAt (i*3+1) ω (ze raw i);have d2:=h.row.cellAt (i*3+2) ω (zh raw i);have f1:=h.row.free (i*3+1);have f2:=h.row.free (i*3+2);have hA:=h.ok.c1;have kl:=fun W=>Ox (raw i).k (raw i).s k s W;rw[hl]at kl;have R3:Hid (∀w2:World,aa [] (w.alloc (.cells #[.int .i64 k,.int .u64 s] 129)) w2->aF ((w2.setCell ⟨ca,i*3+1,none⟩ (.int .i64 k)).setCell ⟨ca,i*3+2,none⟩ (.int .u64 s)) c [c,ca,nm,mb,g] (ay A i k s) st/\aa [c,ca,nm,mb,g] w ((w2.setCell ⟨ca,i*3+1,none⟩ (.int .i64 k)).setCell ⟨ca,i*3+2,none⟩ (.int .u64 s))):=fun w2 hw2=>by
  have hs:=h.sep;have hm:=h.upd (hu0.trans hw2) σ;have gX:aa [ca,mb] w2 ((w2.setCell ⟨ca,i*3+1,none⟩ (.int .i64 k)).setCell ⟨ca,i*3+2,none⟩ (.int .u64 s)):=β;have bW:aa [ca] w2 ((w2.setCell ⟨ca,i*3+1,none⟩ (.int .i64 k)).setCell ⟨ca,i*3+2,none⟩ (.int .u64 s)):=β;have e2:ay A (i:Int) k s=jc A i ⟨(A.c i).i,k,s⟩:=by unfold ay;rw[if_pos hB0.out];simp
  refine⟨⟨ca,nm,mb,g,cap,l,rt,dp,fun y=>if y=i then ⟨(raw i).i,k,s⟩else raw y,?_,rfl⟩,((hu0.trans hw2).mono σ).trans (gX.mono ι)⟩;rw[e2];refine hm.turn gX (row2 hm.row k s) ?_ (by rw[←e2];exact Lj h.ok _ _ _ hk) (fI _ _ _) rfl (zG h.rel hi (Or.inr ⟨ee.1,ee.2.1,by rw[ee.2.2]⟩));rw[J7 (A:=A) (A':=jc A i ⟨(A.c i).i,k,s⟩) (fun q=>by have:=nO A i ⟨(A.c i).i,k,s⟩ q hi;simp only at this;omega)];exact hm.many.upd bW ι
 generalize (raw i).k=k0 at *;generalize (raw i).s=s0 at *;have hlt:ca<w.heap.size:=h.row.lt;have r1:∀W,aa [] (w.alloc (.cells #[.int .i64 k,.int .u64 s] 129)) W->W.cell? ⟨c,1,none⟩=some (.slice (some ⟨ca,0,none⟩) A.cs.length A.cs.length):=fun W hW=>(hu0.trans hW).was c1;have r2:∀W,aa [] (w.alloc (.cells #[.int .i64 k,.int .u64 s] 129)) W->W.cell? ⟨ca,i*3+1,none⟩=some (.int .i64 k0):=fun W hW=>(hu0.trans hW).was d1;have r3:∀W,aa [] (w.alloc (.cells #[.int .i64 k,.int .u64 s] 129)) W->W.cell? ⟨ca,i*3+2,none⟩=some (.int .u64 s0):=fun W hW=>(hu0.trans hW).was d2
 have r4:∀W,aa [] (w.alloc (.cells #[.int .i64 k,.int .u64 s] 129)) W->W.cell? ⟨w.heap.size,0,none⟩=some (.int .i64 k):=fun W h=>h.was σ;have r5:∀W,aa [] (w.alloc (.cells #[.int .i64 k,.int .u64 s] 129)) W->W.cell? ⟨w.heap.size,1,none⟩=some (.int .u64 s):=fun W h=>h.was σ;have g1:∀W,aa [] (w.alloc (.cells #[.int .i64 k,.int .u64 s] 129)) W->W.frozen? ⟨ca,i*3+1,none⟩=false:=fun W hW=>by rw[(hu0.trans hW).frozen hlt σ];exact f1
 have g2:∀W,aa [] (w.alloc (.cells #[.int .i64 k,.int .u64 s] 129)) W->W.frozen? ⟨ca,i*3+2,none⟩=false:=fun W hW=>by rw[(hu0.trans hW).frozen hlt σ];exact f2
 clear h hl ee c1 d1 d2 f1 f2 e hx2
 go_enter Tryz.func147,Tryz.ntmps147
 go_wp2
 go_region_held3 (aa [] (w.alloc (.cells #[.int .i64 k,.int .u64 s] 129))) (exact η)
  (first
   | (go_at_call 149;(with_reducible refine(k3 _ β).mono ?_);rintro e w9 ⟨rfl,aJ⟩;rw[aJ];clear aJ w9)
   | (go_at_call 158;(with_reducible refine(kl _).mono ?_);rintro e w1 ⟨rfl,hu1⟩;(have hu2:aa [] (w.alloc (.cells #[.int .i64 k,.int .u64 s] 129)) w1:=η)))
 have q1:=r1 _ hu2;have q2:=r2 _ hu2;have q3:=r3 _ hu2;have q4:=r4 _ hu2;have q5:=r5 _ hu2;have q6:=g1 _ hu2;have q7:=g2 _ hu2;clear r1 r2 r3 r4 r5 g1 g2 k3 kl;have HQ:=χ hu2;clear hu2 hu0 hu1;go_wp2
 go_region
 go_wp2;go_ret;exact⟨rfl,((R3.out w1 HQ.out).1).au ((aa.refl _ _).drew),(R3.out w1 HQ.out).2.drew⟩
def bT(st k:Nat):Nat:=min (st+k) 4611686018427387904
theorem gK{st:Nat}(h:st<=4611686018427387904):bT st 0=st:=by unfold bT;omega
theorem iZ(st a b:Nat):bT (bT st a) b=bT st (a+b):=by unfold bT;omega
theorem Ky(p:Addr)(s:Nat)(w:World)(h1:s<=4611686018427387904)(hc:w.cell? p=some (.int .i64 (s:Int)))(hf:w.frozen? p=false) :
  Calls Tryz.prog 182 #[.pointer (some p),.int .i64 1] w fun e w'=>e=.returned (.tuple #[])/\w'=w.setCell p (.int .i64 (bT s 1:Nat)):=by
 by_cases h:s=4611686018427387904
 ·have e:bT s 1=4611686018427387904:=by unfold bT;omega
  rw[e];have h':4611686018427387904-(s:Int)<1:=ω;clear e h
  go_enter Tryz.func182,Tryz.ntmps182
  go_wp2;go_end0;exact⟨rfl,rfl⟩
 ·have e:((bT s 1:Nat):Int)=(s:Int)+1:=by unfold bT;omega
  rw[e];have h':¬4611686018427387904-(s:Int)<1:=ω;clear e h
  go_enter Tryz.func182,Tryz.ntmps182
  go_wp2;go_end0;exact⟨rfl,rfl⟩
theorem CM.count{w:World}{c ca nm mb g cap:Nat}{l:List Int}{rt dp:Nat->Nat}{raw:Nat->Cl}{A:NS}{st:Nat}(h:CM w c ca nm mb g cap l rt dp raw A st)(k:Nat):CM (w.setCell ⟨c,0,none⟩ (.int .i64 (bT st k:Nat))) c ca nm mb g cap l rt dp raw A (bT st k):=by
 have hu:aa [c] w (w.setCell ⟨c,0,none⟩ (.int .i64 (bT st k:Nat))):=β;have s:=h.sep;refine⟨(h.head.set 0 _).ext (fun j hj=>?_),h.row.upd hu ι,h.Xy.upd hu ι ι,h.many.upd hu ι,h.QE,h.ok,by unfold bT;omega,h.rel,h.hlen,h.has,s⟩;rcases(ω:j=0\/j=1\/j=2\/j=3)with rfl|rfl|rfl|rfl<;>simp
theorem Uo(A:NS)(a b:Nat):(decide (Ce (A.c a).k (A.c a).s (A.c b).k (A.c b).s<0) || (decide (Ce (A.c a).k (A.c a).s (A.c b).k (A.c b).s=0) && decide (a<b)))=decide (bZ A a b):=by
 rw[Bool.eq_iff_iff,decide_eq_true_iff];simp only[Bool.or_eq_true,Bool.and_eq_true,decide_eq_true_eq];unfold Ce vZ bZ
 by_cases h:(A.c a).k=(A.c b).k
 ·rw[if_pos h]
  by_cases h1:(A.c a).s<(A.c b).s
  ·rw[if_pos h1];omega
  ·rw[if_neg h1];split<;>omega
 ·rw[if_neg h]
  by_cases h1:(A.c a).k<(A.c b).k
  ·rw[if_pos h1];omega
  ·rw[if_neg h1];split<;>omega
theorem fA{w:World}{c st:Nat}{F:List Nat}{A:NS}(h:aF w c F A st)(a b:Nat)(ha:bS A a=true)(hb:bS A b=true) :
  Calls Tryz.prog 174 #[.pointer (some ⟨c,0,none⟩),.int .i64 (a:Int),.int .i64 (b:Int)] w fun e w'=>e=.returned (.bool (decide (bZ A a b)))/\aF w' c F A (bT st 1)/\aa [c] w w':=by
 have k1:=qY h a;have k2:=qY h b;rw[ha]at k1;rw[hb]at k2;obtain⟨ha1,ha2⟩:=(ah _ _).1 ha;obtain⟨hb1,hb2⟩:=(ah _ _).1 hb;have hA:=h.ok.c1;obtain⟨ca,nm,mb,g,cap,l,rt,dp,raw,h,rfl⟩:=h;have e1:A.c a=⟨rt (raw a).i.toNat,(raw a).k,(raw a).s⟩:=by
  rcases h.rel a ha1 with⟨h1,h2⟩|h3
  ·rw[h2]at ha2;exact absurd ha2 δ
  ·exact h3.2.2
 have e2:A.c b=⟨rt (raw b).i.toNat,(raw b).k,(raw b).s⟩:=by
  rcases h.rel b hb1 with⟨h1,h2⟩|h3
  ·rw[h2]at hb2;exact absurd hb2 δ
  ·exact h3.2.2
 have hres:=Uo A a b;rw[e1,e2]at hres;simp only at hres;have c0:=h.c0;have c1:=h.c1;have f0:=h.head.free 0;have d1:=h.row.cellAt (a*3+1) ω (ze raw a);have d2:=h.row.cellAt (a*3+2) ω (zh raw a);have d3:=h.row.cellAt (b*3+1) ω (ze raw b);have d4:=h.row.cellAt (b*3+2) ω (zh raw b);have s:=h.sep;have hst:=h.pF;have kc:=Ky ⟨c,0,none⟩ st w hst c0 f0;have kk:=fun W=>yE (raw a).k (raw a).s (raw b).k (raw b).s W;generalize hz:Ce (raw a).k (raw a).s (raw b).k (raw b).s=z at *;generalize (raw a).k=ka at *;generalize (raw a).s=sa at *;generalize (raw b).k=kb at *;generalize (raw b).s=sb at *
 have VV:=h.row.lt;have hcw:=h.head.lt;have H1:=χ (h.count 1);have HR:=χ hres;generalize hn:bT st 1=st1 at *;have u0:aa [c] w (w.setCell ⟨c,0,none⟩ (.int .i64 (st1:Int))):=β;have r1:∀W,aa [] (w.setCell ⟨c,0,none⟩ (.int .i64 (st1:Int))) W->W.cell? ⟨c,1,none⟩=some (.slice (some ⟨ca,0,none⟩) A.cs.length A.cs.length):=fun W hW=>hW.was H1.out.c1;have r2:∀W,aa [] (w.setCell ⟨c,0,none⟩ (.int .i64 (st1:Int))) W->W.cell? ⟨ca,a*3+1,none⟩=some (.int .i64 ka):=fun W hW=>hW.was ((u0.cell VV ι).trans d1)
 have r3:∀W,aa [] (w.setCell ⟨c,0,none⟩ (.int .i64 (st1:Int))) W->W.cell? ⟨ca,a*3+2,none⟩=some (.int .u64 sa):=fun W hW=>hW.was ((u0.cell VV ι).trans d2);have r4:∀W,aa [] (w.setCell ⟨c,0,none⟩ (.int .i64 (st1:Int))) W->W.cell? ⟨ca,b*3+1,none⟩=some (.int .i64 kb):=fun W hW=>hW.was ((u0.cell VV ι).trans d3);have r5:∀W,aa [] (w.setCell ⟨c,0,none⟩ (.int .i64 (st1:Int))) W->W.cell? ⟨ca,b*3+2,none⟩=some (.int .u64 sb):=fun W hW=>hW.was ((u0.cell VV ι).trans d4);clear h ha hb ha2 hb2 e1 e2 hres d1 d2 d3 d4 hz hn u0
 by_cases hz1:z<0
 ·have hd:decide (bZ A a b)=true:=by rw[←HR.out,decide_eq_true hz1];rfl
  rw[hd];clear hd
  go_enter Tryz.func174,Tryz.ntmps174
  go_wp2_with (first|(go_at_call 149;(with_reducible refine(k1).mono ?_);rintro e w9 ⟨rfl,aJ⟩;rw[aJ];clear aJ w9)|(go_at_call 149;(with_reducible refine(k2).mono ?_);rintro e w9 ⟨rfl,aJ⟩;rw[aJ];clear aJ w9)|(go_at_call 182;(with_reducible refine(kc).mono ?_);rintro e w9 ⟨rfl,aJ⟩;rw[aJ];clear aJ w9))
  go_region_held3 (aa [] (w.setCell ⟨c,0,none⟩ (.int .i64 (st1:Int)))) (exact η)
   ((go_at_call 164;(with_reducible refine(kk _).mono ?_);rintro e w1 ⟨rfl,hu1⟩;(have hu2:aa [] (w.setCell ⟨c,0,none⟩ (.int .i64 (st1:Int))) w1:=η)))
  go_wp2;go_ret;exact⟨rfl,⟨ca,nm,mb,g,cap,l,rt,dp,raw,H1.out.upd hu2 σ,rfl⟩,((aa.refl [c] w).setCell (Or.inl σ) _).then hu2⟩
 ·by_cases hz2:z=0
  ·have hd:decide (bZ A a b)=decide ((a:Int)<(b:Int)):=by rw[←HR.out,decide_eq_false hz1,decide_eq_true hz2];simp
   rw[hd];subst hz2;clear hd
   go_enter Tryz.func174,Tryz.ntmps174
   go_wp2_with (first|(go_at_call 149;(with_reducible refine(k1).mono ?_);rintro e w9 ⟨rfl,aJ⟩;rw[aJ];clear aJ w9)|(go_at_call 149;(with_reducible refine(k2).mono ?_);rintro e w9 ⟨rfl,aJ⟩;rw[aJ];clear aJ w9)|(go_at_call 182;(with_reducible refine(kc).mono ?_);rintro e w9 ⟨rfl,aJ⟩;rw[aJ];clear aJ w9))
   go_region_held3 (aa [] (w.setCell ⟨c,0,none⟩ (.int .i64 (st1:Int)))) (exact η)
    ((go_at_call 164;(with_reducible refine(kk _).mono ?_);rintro e w1 ⟨rfl,hu1⟩;(have hu2:aa [] (w.setCell ⟨c,0,none⟩ (.int .i64 (st1:Int))) w1:=η)))
   go_wp2;go_ret;exact⟨aT σ,⟨ca,nm,mb,g,cap,l,rt,dp,raw,H1.out.upd hu2 σ,rfl⟩,((aa.refl [c] w).setCell (Or.inl σ) _).then hu2⟩
  ·have hz3:(z == 0)=false:=by simpa using hz2
   have hd:decide (bZ A a b)=false:=by rw[←HR.out,decide_eq_false hz1,decide_eq_false hz2];rfl
   rw[hd];clear hd hz2
   go_enter Tryz.func174,Tryz.ntmps174
   go_wp2_with (first|(go_at_call 149;(with_reducible refine(k1).mono ?_);rintro e w9 ⟨rfl,aJ⟩;rw[aJ];clear aJ w9)|(go_at_call 149;(with_reducible refine(k2).mono ?_);rintro e w9 ⟨rfl,aJ⟩;rw[aJ];clear aJ w9)|(go_at_call 182;(with_reducible refine(kc).mono ?_);rintro e w9 ⟨rfl,aJ⟩;rw[aJ];clear aJ w9))
   go_region_held3 (aa [] (w.setCell ⟨c,0,none⟩ (.int .i64 (st1:Int)))) (exact η)
    ((go_at_call 164;(with_reducible refine(kk _).mono ?_);rintro e w1 ⟨rfl,hu1⟩;(have hu2:aa [] (w.setCell ⟨c,0,none⟩ (.int .i64 (st1:Int))) w1:=η)))
   go_wp2;go_ret;exact⟨aT ζ,⟨ca,nm,mb,g,cap,l,rt,dp,raw,H1.out.upd hu2 σ,rfl⟩,((aa.refl [c] w).setCell (Or.inl σ) _).then hu2⟩
theorem rM.make{l:List Int}{rt dp:Nat->Nat}(h:rM l rt dp)(hl:l.length<=65536):rM (l++[(l.length:Int)]) (fun i=>if i=l.length then i else rt i) dp:=by
 have h1:=h.len;have g1:∀i,i<l.length->(l++[(l.length:Int)]).getD i 0=l.getD i 0:=fun i hi=>by simp[φ,List.getElem?_append_left hi]
 have g2:(l++[(l.length:Int)]).getD l.length 0=l.length:=by simp[φ]
 refine⟨σ,ζ,fun i a b=>?_,fun i a b=>?_,fun i a b=>?_,fun i a b=>?_⟩
 all_goals
  simp only[υ,List.length_cons,List.length_nil]at b⊢;rcases(ω:i<l.length\/i=l.length)with hi|hi
 ·rw[g1 i hi];have:=h.wy i a hi;omega
 ·rw[hi,g2];omega
 ·have:=h.wy i a hi;rw[g1 i hi,if_neg (show ¬ (l.getD i 0).toNat=l.length by omega),if_neg ω];exact h.up i a hi
 ·rw[hi,g2];simp
 ·rw[g1 i hi,if_neg (show ¬i=l.length by omega)];exact h.top i a hi
 ·intro _;rw[if_pos hi]
 ·rw[g1 i hi];exact h.low i a hi
 ·rw[hi,g2];intro hn;exact absurd rfl hn
theorem iR{w:World}{c st:Nat}{F:List Nat}{A:NS}(h:aF w c F A st) :
  Calls Tryz.prog 156 #[.pointer (some ⟨c,0,none⟩)] w fun e w'=>e=.returned (.int .i64 (dm A))/\Goes F w w' (fun F'=>aF w' c F' (aR A) st):=by
 have hC:=h;obtain⟨ca,nm,mb,g,cap,l,rt,dp,raw,h,rfl⟩:=h;have c2:=h.c2;have hlen:=h.hlen;have hl1:=h.QE.len;have hl2:=h.QE.Qg;have hs:=h.sep;unfold dm aR
 by_cases hfull:l.length=65537
 ·have k:=TW nm g cap l w h.Xy hfull;rw[if_pos ω,if_pos ω];have HC:=χ hC;clear h hC hlen hfull
  go_enter Tryz.func156,Tryz.ntmps156
  go_wp2_with (go_at_call 163;(with_reducible refine(k).mono ?_);rintro e w1 ⟨rfl,hu⟩)
  go_ret;exact⟨rfl,Goes.stay (HC.out.au hu) (hu.mono σ)⟩
 ·have k:=PO nm g cap l w h.Xy hl1 ω;rw[if_neg ω,if_neg ω,hlen];have H:=χ h;have HL:=χ hlen;clear h hC hlen
  go_enter Tryz.func156,Tryz.ntmps156
  go_wp2_with (go_at_call 163;(with_reducible refine(k).mono ?_);rintro e w1 ⟨g',cap',rfl,hN,hu,hg⟩)
  go_ret;have h:=H.out;have hc:=h.head.lt;have hca:=h.row.lt;have hmb:=h.many.lt;have hsep:c≠g'/\ca≠g'/\mb≠g':=by rcases hg with rfl|hg;exact⟨ω,ω,ω⟩;exact⟨ω,ω,ω⟩
  have hok:(NS.mk (A.hs++[true]) A.cs).Ok:=by
   have:=Gj h.ok;unfold aR at this;rwa[if_neg (by have:=HL.out;omega)]at this
  refine⟨rfl,[c,ca,nm,mb,g'],⟨ca,nm,mb,g',cap',l++[(l.length:Int)],fun i=>if i=l.length then i else rt i,dp,raw,?_,rfl⟩,hu.mono ι,fun x hx=>by simp at hx⊢;omega⟩;refine⟨h.head.upd hu ι,h.row.upd hu ι,hN,h.many.upd hu ι,h.QE.make ω,hok,h.pF,fun x hx=>?_,by simp[HL.out],fun i h1 h2=>?_,ω⟩
  ·rcases h.rel x hx with h'|⟨h3,h4,h5⟩
   ·exact Or.inl h'
   ·refine Or.inr ⟨h3,ζ,?_⟩;rw[if_neg ω];exact h5
  ·simp only[υ,List.length_cons,List.length_nil]at h2;have hLo:=HL.out;rcases(ω:i<l.length\/i=l.length)with hi|hi
   ·have:=h.has i h1 hi;simp only[φ]at this⊢;rw[List.getElem?_append_left ω,List.getElem?_append_left hi];exact this
   ·subst hi;simp only[φ];rw[←hLo,List.getElem?_append_right (Nat.le_refl _),List.getElem?_append_right ω];simp[hLo]
theorem Jm(n j:Nat)(hj:j<n*3):(madeCells #[Value.int .i64 0,.int .i64 0,.int .u64 0] (n*3)).toList.getD j undef=if j % 3=0 then .int .i64 0 else if j % 3=1 then .int .i64 0 else .int .u64 0:=by
 rw[φ,ε (by simp[size_madeCells];omega)];simp only[Option.getD_some,madeCells,Array.getElem_toList,Array.getElem_map,Array.getElem_range];rcases(ω:j % 3=0\/j % 3=1\/j % 3=2)with e|e|e<;>simp[e]
theorem Q6:(Tryz.prog.info? 281).map (fun i=>(i.zero,i.size,i.bytes))=some (some (.agg #[.int .i64 0,.int .i64 0,.int .u64 0]),3,24):=by kernel_rfl
theorem oo(n:Nat)(w:World)(h:n<=65536) :
  Calls Tryz.prog 107 #[.int .i64 (n:Int)] w fun e w'=>∃c F,e=.returned (.tuple #[.pointer (some ⟨c,0,none⟩),.int .i64 0])/\aF w' c F (NS.new n) 0/\aa [] w w'/\∀x,x∈F->w.heap.size<=x:=by
 have hmm:=@run_makeMap Tryz.prog
 go_enter Tryz.func107,Tryz.ntmps107
 go_wp2_with (first
  | ((go_at_call 114;(with_reducible refine(Sb _).mono ?_));rintro e w1 ⟨nm,g,rfl,hN,hu1,hb1,hb2⟩)
  | (at_make;refine wpList_make_row rfl _ 241 rfl 281 (.agg #[.int .i64 0,.int .i64 0,.int .u64 0]) 3 24 Tryz.underlying241 Q6 n rfl ω μ ?_;intro w2 hr2 hu2))
 go_ret2;have hu3:aa [] w2 ((w2.alloc (.map #[] 0)).alloc (.cells #[.int .i64 0,.slice (some ⟨w1.heap.size,0,none⟩) n n,.pointer (some ⟨nm,0,none⟩),.map (some w2.heap.size)] 245)):=β;have hh:=dP (w2.alloc (.map #[] 0)) [.int .i64 0,.slice (some ⟨w1.heap.size,0,none⟩) n n,.pointer (some ⟨nm,0,none⟩),.map (some w2.heap.size)] 245;rw[World.size_alloc]at hh;have l1:=hN.lt;have l2:=hu2.size;have l3:=hr2.lt;have l4:=hu1.size;have hcs:(NS.new n).cs.length=n:=by simp[NS.new]
 refine⟨w2.heap.size+1,[w2.heap.size+1,w1.heap.size,nm,w2.heap.size,g],rfl,⟨w1.heap.size,nm,w2.heap.size,g,1,[0],fun i=>i,fun _=>0,fun _=>Cl.z,?_,rfl⟩,(hu1.trans hu2).trans hu3,fun x hx=>by simp at hx;omega⟩;refine⟨?_,?_,(hN.upd hu2 σ σ).upd hu3 σ σ,((gN.made w2).upd ((aa.refl [] _).alloc _) σ).ext (fun k=>?_),?_,NS.zY n h,ω,fun x _=>Or.inl ⟨rfl,NS.yM n x⟩,rfl,fun i h1 h2=>by simp at h2;omega,ω⟩
 ·rw[hcs];exact hh
 ·rw[hcs];refine(hr2.upd hu3 σ).ext (fun j hj=>?_);have hz:(Value.agg #[.int .i64 0,.int .i64 0,.int .u64 0]).cells=#[.int .i64 0,.int .i64 0,.int .u64 0]:=rfl;rw[hz];unfold kN Cl.z;have:=Jm n j hj;rw[this]
 ·unfold jG;have:dO (NS.new n) k=0:=by
   rcases Nat.eq_zero_or_pos (dO (NS.new n) k)with h'|h'
   ·exact h'
   ·obtain⟨x,_,h1,h2⟩:=fH.1 h';rw[NS.yM]at h1;have:(0:Int)=k:=h1;omega
  rw[this];rfl
 ·exact⟨σ,σ,fun i h1 h2=>by simp at h2;omega,fun i h1 h2=>by simp at h2;omega,fun i h1 h2=>by simp at h2;omega,fun i h1 h2=>by simp at h2;omega⟩
theorem lK{A:NS}{h:Int}{m:Nat}(hm:dL A h=some m):0<h/\m<A.cs.length/\(A.c m).i=h/\bS A m=true:=by
 by_cases hh:0<h
 ·have h1:=(iT hh).1 hm;exact⟨hh,h1.1,h1.2.1,(ah _ _).2 ⟨h1.1,by rw[h1.2.1];exact hh⟩⟩
 ·rw[qc hh]at hm;cases hm
theorem iI{A:NS}{h:Int}:dL A h=none↔dO A h=0:=by
 by_cases hh:0<h
 ·exact jQ hh
 ·rw[qc hh,Qr hh];simp
def lenOf:Value->Nat | .slice _ l _=>l|_=>0
def bH(l:List Nat):List Int:=l.map (fun(x:Nat)=>(x:Int))
def Enters(f:FuncId):Prop:=∀ (args:Array Value) (W:World),(callFunc f args).run Tryz.prog W=.ok (.enter f args) W
def uU(A:NS)(h:Int):NS:=match dL A h with|some m=>bz A m|none=>A
def Pp(ty:TypeId)(p:Nat)(name:String)(w:World)(mk:Value->Array Value)(Q:World->Ending->World->Prop):Prop:=
 ∃f v,Enters f/\∀W,aa [] w W->(method 429 ty (.pointer (some ⟨p,0,none⟩)) name).run Tryz.prog W=.ok (f,v) W/\Calls Tryz.prog f (mk v) W (Q W)
theorem Pp.now{ty:TypeId}{p:Nat}{name:String}{w:World}{mk:Value->Array Value}{Q:World->Ending->World->Prop}(h:Pp ty p name w mk Q) :
  ∃f v,Enters f/\(method 429 ty (.pointer (some ⟨p,0,none⟩)) name).run Tryz.prog w=.ok (f,v) w/\Calls Tryz.prog f (mk v) w (Q w):=by
 obtain⟨f,v,he,h⟩:=h;exact⟨f,v,he,h w (aa.refl _ _)⟩
theorem qC{A:NS}{x:Int}(hB:bS A x=true):∃y:Nat,x=y:=⟨x.toNat,by have:=(yY _ _).1 hB;omega⟩
theorem rq{A:NS}{x k s:Int}(hB:jg A x k s=true):bS A x=true:=by
 unfold jg at hB;simp only[Bool.and_eq_true]at hB;exact hB.1
theorem aZ{ty:TypeId}{p:Nat}{name:String}{w:World}{mk:Value->Array Value}{Q:World->Ending->World->Prop}(f:FuncId)(he:Enters f)(hm:∀W,(method 429 ty (.pointer (some ⟨p,0,none⟩)) name).run Tryz.prog W=.ok (f,.pointer (some ⟨p,0,none⟩)) W)
  (hc:∀W,aa [] w W->Calls Tryz.prog f (mk (.pointer (some ⟨p,0,none⟩))) W (Q W)):Pp ty p name w mk Q:=⟨f,_,he,fun W hW=>⟨hm W,hc W hW⟩⟩
theorem iN{ty:TypeId}{p c:Nat}{name:String}{w:World}{mk:Value->Array Value}{Q:World->Ending->World->Prop}(f:FuncId)(he:Enters f)(h0:w.cell? ⟨p,0,none⟩=some (.pointer (some ⟨c,0,none⟩)))
  (hm:∀W,W.cell? ⟨p,0,none⟩=some (.pointer (some ⟨c,0,none⟩))->(method 429 ty (.pointer (some ⟨p,0,none⟩)) name).run Tryz.prog W=.ok (f,.pointer (some ⟨c,0,none⟩)) W)
  (hc:∀W,aa [] w W->Calls Tryz.prog f (mk (.pointer (some ⟨c,0,none⟩))) W (Q W)):Pp ty p name w mk Q:=⟨f,_,he,fun W hW=>⟨hm W (hW.was h0),hc W hW⟩⟩
structure gW where
 ty:TypeId
 at_:World->Nat->List Nat->NS->Prop
 upd:∀ {w w':World} {p:Nat} {F S:List Nat} {A:NS},at_ w p F A->aa S w w'->(∀x,x∈S->x∉F)->at_ w' p F A
 lt:∀ {w:World} {p:Nat} {F:List Nat} {A:NS},at_ w p F A->∀x,x∈F->x<w.heap.size
 ok:∀ {w:World} {p:Nat} {F:List Nat} {A:NS},at_ w p F A->A.Ok
 make:∀ {w:World} {p:Nat} {F:List Nat} {A:NS},at_ w p F A->Pp ty p "Make" w (fun v=>#[v]) fun w e w'=>e=.returned (.int .i64 (dm A))/\Goes F w w' (fun F'=>at_ w' p F' (aR A))
 insert:∀ {w:World} {p:Nat} {F:List Nat} {A:NS} (h x:Nat) (k s:Int),(-9223372036854775808<=k/\k<=9223372036854775807/\0<=s/\s<=18446744073709551615)->oG A h x=true->at_ w p F A->Pp ty p "Insert" w (fun v=>#[v,.int .i64 (h:Int),.int .i64 (x:Int),.agg #[.int .i64 k,.int .u64 s]]) fun w e w'=>e=.returned (.bool true)/\Goes F w w' (fun F'=>at_ w' p F' (aK A h x k s))
 min:∀ {w:World} {p:Nat} {F:List Nat} {A:NS} (h:Nat),bJ A h=true->at_ w p F A->Pp ty p "Min" w (fun v=>#[v,.int .i64 (h:Int)]) fun w e w'=>e=.returned (.tuple #[.int .i64 (qh (dL A h)),.bool (dL A h).isSome])/\Goes F w w' (fun F'=>at_ w' p F' A)
 extract:∀ {w:World} {p:Nat} {F:List Nat} {A:NS} (h m:Nat),dL A h=some m->at_ w p F A->Pp ty p "Extract" w (fun v=>#[v,.int .i64 (h:Int)]) fun w e w'=>e=.returned (.tuple #[.int .i64 (m:Int),.bool true])/\Goes F w w' (fun F'=>at_ w' p F' (bz A m))
 mD:∀ {w:World} {p:Nat} {F:List Nat} {A:NS} (x:Nat) (k s:Int),(-9223372036854775808<=k/\k<=9223372036854775807/\0<=s/\s<=18446744073709551615)->jg A x k s=true->at_ w p F A->Pp ty p "Decrease" w (fun v=>#[v,.int .i64 (x:Int),.agg #[.int .i64 k,.int .u64 s]]) fun w e w'=>e=.returned (.bool true)/\Goes F w w' (fun F'=>at_ w' p F' (ay A x k s))
 has:∀ {w:World} {p:Nat} {F:List Nat} {A:NS} (x:Int),at_ w p F A->Pp ty p "Has" w (fun v=>#[v,.int .i64 x]) fun w e w'=>e=.returned (.bool (bJ A x))/\w'=w
 entry:∀ {w:World} {p:Nat} {F:List Nat} {A:NS} (x:Int),at_ w p F A->Pp ty p "Entry" w (fun v=>#[v,.int .i64 x]) fun w e w'=>e=.returned (.tuple #[.agg #[.int .i64 (if bS A x then (A.c x.toNat).k else 0),.int .u64 (if bS A x then (A.c x.toNat).s else 0)],.bool (bS A x)])/\aa [] w w'
end Go.Proofs.YtklibcncmbofpaaGreat
namespace Go.Proofs.YtklibcncmbofpaaGreat
open Go Go.RowKit Go.Maps
theorem aa3:laidOutB Tryz.prog=true:=by kernel_rfl
theorem EX:Keyed Tryz.prog 85:=Keyed.of_law (Go.deep_law_laid aa3 (m:=3) ω (of_decide_eq_true (by kernel_rfl)) (by kernel_rfl) (by rw[Tryz.underlying85]))
def hV(x g:Int):Value:=.agg #[.int .i64 x,.int .u32 g]
theorem hKey{x g:Int}(hx:-9223372036854775808<=x/\x<=9223372036854775807)(hg:0<=g/\g<=4294967295):∃l,keyOf Tryz.prog 85 (hV x g)=some l:=by
 have h1:Tryz.prog.keyType 85=true:=by kernel_rfl
 have h2:(hV x g).formed Tryz.prog 85=true:=by
  unfold hV Value.formed;simp only[Tryz.underlying85];rw[show Tryz.prog.cellsOf 85=2 by kernel_rfl]
  rfl
 have c0:Tryz.prog.cellsOf 3=1:=by kernel_rfl
 have c1:Tryz.prog.cellsOf 83=1:=by kernel_rfl
 have c2:Tryz.prog.cellsOf 85=2:=by kernel_rfl
 have w0:(Lit.int .i64 x).wf=true:=WalkArith.wf_i64 hx;have w1:(Lit.int .u32 g).wf=true:=by simp[Lit.wf,IntKind.min,IntKind.max,IntKind.signed,IntKind.bits];omega
 have key:∀n,Tryz.prog.keyLits (n+1+1) 85 [.int .i64 x,.int .u32 g]=some [.int .i64 x,.int .u32 g]:=fun n=>by
  simp[Program.keyLits,Tryz.underlying85,Tryz.underlying3,Tryz.underlying83,c0,c1,c2,w0,w1]
 have hpos:0<Tryz.prog.types.size:=of_decide_eq_true (by kernel_rfl);obtain⟨n,hn⟩:∃n,Tryz.prog.types.size+1=n+1+1:=⟨Tryz.prog.types.size-1,ω⟩;refine⟨.string (keyBytes [.int .i64 x,.int .u32 g]),?_⟩;unfold keyOf;rw[Tryz.underlying85];simp only[];rw[if_pos (by rw[h1,h2];rfl),hn,show(hV x g).cells.toList=[.int .i64 x,.int .u32 g]from rfl,key]
 rfl
theorem Zx{x g x' g':Int}(h:hV x g=hV x' g'):x=x'/\g=g':=by
 unfold hV at h;simp only[Value.agg.injEq]at h;have h2:=congrArg Array.toList h;simp at h2;exact h2
def oI(w:World)(b c:Nat)(f:Int->Int->Option Int):Prop:=
 ∃D:DataW Unit,w.ownsMap Tryz.prog 85 (plainElem Tryz.prog 3) b c D/\∀x g z kl,f x g=some z->keyOf Tryz.prog 85 (hV x g)=some kl->∀d,D.atKey kl d=.lit (.int .i64 z)
theorem oI.upd{w w':World}{S:List Nat}{b c:Nat}{f:Int->Int->Option Int}(h:oI w b c f)(hu:aa S w w')(hn:b∉S):oI w' b c f:=by
 obtain⟨D,h1,h3⟩:=h;have hl:=h1.lt;obtain⟨es,clock,h1,h2⟩:=h1;exact⟨D,⟨es,clock,(hu.block b hl hn).trans h1,h2⟩,h3⟩
theorem oI.lt{w:World}{b c:Nat}{f:Int->Int->Option Int}(h:oI w b c f):b<w.heap.size:=by
 obtain⟨D,h1,_⟩:=h;exact h1.lt
theorem oI.made(w:World):oI (w.alloc (.map #[] 0)) w.heap.size 0 (fun _ _=>none):=
 ⟨.map [],World.ownsMap_made w _ _ _,fun x g z kl hz=>by cases hz⟩
theorem oI.look{w:World}{b c:Nat}{f:Int->Int->Option Int}(h:oI w b c f){x g z:Int}(hz:f x g=some z)(hx:-9223372036854775808<=x/\x<=9223372036854775807)(hg:0<=g/\g<=4294967295) :
  (Instr.lookup 82 (.map (some b)) (hV x g) false).run Tryz.prog w=.ok (.int .i64 z) w:=by
 obtain⟨D,h1,h3⟩:=h;obtain⟨kl,hk⟩:=hKey hx hg;obtain⟨c',hrun,hat,_⟩:=h1.lookup_int EX Tryz.underlying82 Tryz.underlying3 (DR w) hk;rw[hrun];rw[h3 x g z kl hz hk]at hat;have:z=c':=by simpa using hat
 rw[this]
theorem oI.store{w:World}{b c:Nat}{f:Int->Int->Option Int}(h:oI w b c f)(hc:c<9223372036854775807)(x g z:Int)(hx:-9223372036854775808<=x/\x<=9223372036854775807)(hg:0<=g/\g<=4294967295)(hz:-9223372036854775808<=z/\z<=9223372036854775807) :
  ∃w',(Instr.mapUpdate 82 (.map (some b)) (hV x g) (.int .i64 z)).run Tryz.prog w=.ok () w'/\oI w' b (c+1) (fun y e=>if y=x/\e=g then some z else f y e)/\aa [b] w w':=by
 obtain⟨D,h1,h3⟩:=h;obtain⟨kl,hk⟩:=hKey hx hg;obtain⟨w',hrun,ho,ht⟩:=h1.store EX Tryz.underlying82 μ hk (plainElem_int Tryz.underlying3 (a:=z) (WalkArith.wf_i64 hz));have hD:=h1.isMap;refine⟨w',hrun,⟨_,ho,fun y e u L9 hf hk2 d=>?_⟩,oZ ht⟩
 replace hf:(if y=x/\e=g then some z else f y e)=some u:=hf
 by_cases e1:y=x/\e=g
 ·rw[if_pos e1]at hf;obtain⟨rfl,rfl⟩:=e1;rw[hk]at hk2;cases hk2;cases hf;exact atKey_put_same hD (EX.key hk) _ _
 ·rw[if_neg e1]at hf;have hne:L9≠kl:=fun e2=>e1 (Zx (EX.inj (by rw[hk2,e2]) hk));rw[atKey_put_other hne];exact h3 y e u L9 hf hk2 d
end Go.Proofs.YtklibcncmbofpaaGreat
