/-
  Lemmas for PathBest: Off, Carry8, CarryLink, KarDef, KOrd, Kar7, Kar9. Conditions: those of each lemma.
-/
import Derived.ArgAppend
import Derived.Test.YtklibcncmbofpaaGreatB03
import Derived.Test.YtklibcncmbofpaaGreatB13
set_option linter.all false
set_option maxHeartbeats 8000000
set_option maxRecDepth 10000
namespace Go.Proofs.YtklibcncmbofpaaGreat
open Go Go.RowKit
def bq (w:World) (base:Nat) (v:Value) (xs:List Int):Prop:=
 (v=.slice none 0 0/\xs=[])\/
 ∃g off cap cur,v=.slice (some ⟨g,off,none⟩) xs.length cap/\base<=g/\w.heap[g]?=some (.cells cur 3 (0,0))/\xs.length<=cap/\cap<=9223372036854775807/\off+cap<=cur.size/\∀j u,xs[j]?=some u->cur[off+j]?=some (.int .i64 u)
theorem bq.nil (w:World) (base:Nat):bq w base (.slice none 0 0) []:=Or.inl ⟨rfl,rfl⟩
theorem bq.iY {w:World} {base:Nat} {v:Value} {xs:List Int} (h:w.ownsRow base 3 1 v xs.length (aU xs)):bq w base v xs:=by
 rcases h.2 with ⟨rfl,h0⟩|⟨g,cap,cur,rfl,hb,hg,hn,hc,hs,ht⟩
 ·exact Or.inl ⟨rfl,List.eq_nil_of_length_eq_zero h0⟩
 ·refine Or.inr ⟨g,0,cap,cur,rfl,hb,hg,hn,by unfold maxLen at hc;exact hc,ω,fun j u hj=>?_⟩;have hjl:j<xs.length:=(List.getElem?_eq_some_iff.1 hj).1;have:(aU xs)[j]?=some (.int .i64 u):=by unfold aU;rw [List.getElem?_map,hj];rfl
  rw [←ht,List.getElem?_take,if_pos ω] at this;rw [Nat.zero_add];simpa using this
theorem Mj {w:World} {g:Nat} {o:Obj} (h:w.heap[g]?=some o):g<w.heap.size:=by
 rcases Nat.lt_or_ge g w.heap.size with h'|h'
 ·exact h'
 ·rw [Array.getElem?_eq_none h'] at h;cases h
theorem bq.lt {w:World} {base:Nat} {v:Value} {xs:List Int} (h:bq w base v xs) (g:Nat) (hg:v.ownBlock=some g):base<=g/\g<w.heap.size:=by
 rcases h with ⟨rfl,_⟩|⟨g',off,cap,cur,rfl,hb,hh,_⟩
 ·cases hg
 ·simp only [Value.ownBlock,Option.some.injEq] at hg;subst hg;exact ⟨hb,Mj hh⟩
theorem bq.mono {w:World} {base base':Nat} {v:Value} {xs:List Int} (h:bq w base v xs) (hb:base'<=base):bq w base' v xs:=by
 rcases h with h|⟨g',off,cap,cur,rfl,hb',hh⟩
 ·exact Or.inl h
 ·exact Or.inr ⟨g',off,cap,cur,rfl,Nat.le_trans hb hb',hh⟩
theorem bq.upd {w w':World} {F:List Nat} {base:Nat} {v:Value} {xs:List Int} (h:bq w base v xs) (hu:aa F w w') (hF:∀g,v.ownBlock=some g->g∉F):bq w' base v xs:=by
 rcases h with h|⟨g,off,cap,cur,rfl,hb,hh,h1,h2⟩
 ·exact Or.inl h
 ·exact Or.inr ⟨g,off,cap,cur,rfl,hb,by rw [hu.block g (Mj hh) (hF g rfl)];exact hh,h1,h2⟩
theorem bq.shape {w:World} {base:Nat} {v:Value} {xs:List Int} (h:bq w base v xs) :
  ∃a cap,v=.slice a xs.length cap/\xs.length<=cap/\cap<=9223372036854775807/\∀j u,xs[j]?=some u->∃g off,a=some ⟨g,off,none⟩/\w.cell? ⟨g,off+j,none⟩=some (.int .i64 u):=by
 rcases h with ⟨rfl,rfl⟩|⟨g,off,cap,cur,rfl,hb,hh,h1,h2,h3,h4⟩
 ·exact ⟨none,0,rfl,Nat.le_refl _,ω,fun j u hj=>by simp at hj⟩
 ·refine ⟨_,cap,rfl,h1,h2,fun j u hj=>⟨g,off,rfl,?_⟩⟩;unfold World.cell?;simp only [hh];simpa using h4 j u hj
theorem bq.lit (w:World) (base:Nat) (x:Int) (hb:base<=w.heap.size):bq (w.alloc (.cells #[.int .i64 x] 3)) base (.slice (some ⟨w.heap.size,0,none⟩) 1 1) [x]:=
 bq.iY (qB w [.int .i64 x] 3 base 1 1 rfl hb μ)
def tailV (v:Value):Value:=match v with | .slice a n c=>.slice (if c=1 then a else a.map (·.add 1)) (n-1) (c-1)|v=>v
theorem wy (w:World) (a:Option Addr) (n c:Nat) (h1:1<=n) (h2:n<=9223372036854775807) :
  (Instr.slice 26 (.slice a n c) (some (.int .i64 1)) none none).run Tryz.prog w=.ok (tailV (.slice a n c)) w:=by
 have hs:(sizeOf 3).run Tryz.prog w=.ok 1 w:=by kernel_rfl
 unfold Instr.slice Instr.sliceBounds;simp [run_underlying Tryz.underlying26,go_sem,hs,tailV];intro h;omega
theorem bq.tail {w:World} {base:Nat} {v:Value} {x:Int} {xs:List Int} (h:bq w base v (x::xs)):bq w base (tailV v) xs/\(tailV v).ownBlock=v.ownBlock:=by
 rcases h with ⟨rfl,h0⟩|⟨g,off,cap,cur,rfl,hb,hh,h1,h2,h3,h4⟩
 ·cases h0
 ·simp only [List.length_cons] at h1 ⊢;unfold tailV;simp only [Nat.add_sub_cancel]
  by_cases hc:cap=1
  ·subst hc;have:xs=[]:=List.eq_nil_of_length_eq_zero ω;subst this;rw [if_pos rfl];exact ⟨Or.inr ⟨g,off,0,cur,rfl,hb,hh,Nat.le_refl _,ω,ω,fun j u hj=>by simp at hj⟩,rfl⟩
  ·rw [if_neg hc];have e:(some (⟨g,off,none⟩:Addr)).map (·.add 1)=some ⟨g,off+1,none⟩:=by simp [Addr.add_lit]
   rw [e];refine ⟨Or.inr ⟨g,off+1,cap-1,cur,rfl,hb,hh,ω,ω,ω,fun j u hj=>?_⟩,rfl⟩;have:=h4 (j+1) u (by simpa using hj);rw [show off+1+j=off+(j+1) by omega];exact this
theorem qV (a:Option Addr) (n c:Nat):∃a',tailV (.slice a n c)=.slice a' (n-1) (c-1):=⟨_,rfl⟩
theorem AV {w:World} {base:Nat} {v:Value} {xs:List Int} (hown:bq w base v xs) (t ty:TypeId) (ht:Tryz.prog.underlying t=some (.slice 3)) (g1:Nat) (u:Int) (hnew:w.cell? ⟨g1,0,none⟩=some (.int .i64 u)) (hn:xs.length+1<=1000000) (hbase:base<=w.heap.size) :
  ∃v' w',(Builtin.append_ #[t,t] ty #[v,.slice (some ⟨g1,0,none⟩) 1 1]).run Tryz.prog w=.ok v' w'/\bq w' base v' (xs++[u])/\aa v.ownBlock.toList w w'/\(∀k,v'.ownBlock=some k->v.ownBlock=some k\/w.heap.size<=k):=by
 obtain ⟨i,hi,hz0,hz1,hz2⟩:=info_parts fK;have hnews:∀j x,[Value.int .i64 u][j]?=some x->w.cell? ((⟨g1,0,none⟩:Addr).add j)=some x:=fun j x hj=>by
  match j,hj with
  | 0,hj=>simp at hj;subst hj;rw [xW];exact hnew
 have h1:∀x∈[Value.int .i64 u],x.oneCell'=true:=by simp [Value.oneCell']
 rcases hown with ⟨rfl,rfl⟩|⟨g,off,cap,cur,rfl,hb,hh,hc1,hc2,hc3,hc4⟩
 ·obtain ⟨v',w',hr,h2,h3,_⟩:=run_append_own (P:=Tryz.prog) w w.heap.size t ty 3 i (.int .i64 0) 1 8 ht hi hz0 hz1 hz2 rfl δ (.slice none 0 0) 0 [] (World.ownsRow_nil w _ _ _) ⟨g1,0,none⟩ 1 1 [.int .i64 u] rfl hnews h1 μ ω (Nat.le_refl _);exact ⟨v',w',hr,(bq.iY (xs:=[u]) h2).mono hbase,(aa.refl _ _).grown h3 (fun k hk=>by cases hk),fun k hk=>Or.inr (h2.lt k hk).1⟩
 ·by_cases hfit:xs.length+1<=cap
  ·have hf:=run_firstCells_some (P:=Tryz.prog) w i.size 1 ⟨g1,0,none⟩ 1 1 [.int .i64 u] (by rw [hz1];rfl) hnews;have hst:=run_storeCells_at Tryz.prog g (off+xs.length*i.size) 3 [.int .i64 u] 0 cur w hh (by rw [hz1];simp;omega) h1;simp only [Nat.add_zero] at hst;have hrun:(Builtin.append_ #[t,t] ty #[.slice (some ⟨g,off,none⟩) xs.length cap,.slice (some ⟨g1,0,none⟩) 1 1]).run Tryz.prog w=.ok (.slice (some ⟨g,off,none⟩) (xs.length+1) cap) (w.setRow g (cur.toList.take (off+xs.length*i.size)++[Value.int .i64 u]++cur.toList.drop (off+xs.length*i.size+1)).toArray):=by
    simp [Builtin.append_,run_underlying ht,sizeOf,typeInfo,hi,Builtin.lenOf,hfit,hf,Addr.add_lit];have:=hst;simp at this;simp [this]
   rw [hz1,Nat.mul_one] at hrun;refine ⟨_,_,hrun,Or.inr ⟨g,off,cap,_,by rw [υ];rfl,hb,setRow_heap w g cur _ _ _ hh,by rw [υ];exact hfit,hc2,?_,fun j x hj=>?_⟩,?_,fun k hk=>Or.inl hk⟩
   ·simp;omega
   ·have hlen:off+xs.length<=cur.size:=ω;rcases Nat.lt_or_ge j xs.length with h|h
    ·rw [List.getElem?_append_left h] at hj;have:=hc4 j x hj;rw [List.getElem?_toArray,List.append_assoc,List.getElem?_append_left ζ,List.getElem?_take,if_pos ω];simpa using this
    ·have hj2:j=xs.length:=by
      have:=(List.getElem?_eq_some_iff.1 hj).1;rw [υ] at this;simp at this;omega
     subst hj2;rw [List.getElem?_append_right (Nat.le_refl _)] at hj;simp at hj;subst hj;rw [List.getElem?_toArray,List.append_assoc,List.getElem?_append_right ζ];simp [Nat.min_eq_left hlen]
   ·exact ⟨rfl,rfl,rfl,σ,fun k hk hm=>setRow_other w g k _ (fun e=>hm (by simp [Value.ownBlock,e]))⟩
  ·obtain ⟨v',w',hr,h2,h3⟩:=run_append_arg_grows (P:=Tryz.prog) w t ty 3 i (.int .i64 0) 1 8 ht hi hz0 hz1 hz2 rfl δ ⟨g,off,none⟩ xs.length cap (aU xs) (by rw [fG,Nat.mul_one]) (fun j x hj=>by
    unfold aU at hj;rw [List.getElem?_map] at hj;cases hq:xs[j]? with
    | none=>rw [hq] at hj;cases hj
    | some y=>
     rw [hq] at hj;simp at hj;subst hj;rw [Addr.add_lit];unfold World.cell?;simp only [hh]
     simpa using hc4 j y hq) ⟨g1,0,none⟩ 1 1 [.int .i64 u] rfl hnews ω μ ω
   have h4:w'.ownsRow w.heap.size 3 1 v' (xs++[u]).length (aU (xs++[u])):=by rw [υ,bN];exact h2
   exact ⟨v',w',hr,(bq.iY h4).mono hbase,(aa.refl _ _).grown h3 (fun k hk=>by cases hk),fun k hk=>Or.inr (h2.lt k hk).1⟩
theorem uR {o:Oper} {a:Act} {w:World} {K:Act->World->Prop} {Q:Exit->Act->World->Prop} (s x:Operand) (t:TypeId)
  (ho:o.op=.call { callee:=.builtin .append,args:=#[s,x],argTypes:=#[t,t] }) (ht:Tryz.prog.underlying t=some (.slice 3))
  (base:Nat) (v:Value) (xs:List Int) (hs:a.eval s=v) (hown:bq w base v xs)
  (g1:Nat) (u:Int) (hx:a.eval x=.slice (some ⟨g1,0,none⟩) 1 1) (hnew:w.cell? ⟨g1,0,none⟩=some (.int .i64 u)) (hn:xs.length+1<=1000000) (hbase:base<=w.heap.size)
  (h:∀v' w',bq w' base v' (xs++[u])->aa v.ownBlock.toList w w'->(∀k,v'.ownBlock=some k->v.ownBlock=some k\/w.heap.size<=k)->K (a.put o.dst v') w'):Oper.wp Tryz.prog o a w K Q:=by
 obtain ⟨v',w',hr,h2,h3,h4⟩:=AV hown t o.type ht g1 u hnew hn hbase;unfold Oper.wp execOp;simp only [ho,resolve,invoke,builtin,Sem.run_bind,Sem.run_pure,Result.andThen_ok,List.map_toArray,List.map_cons,List.map_nil,hs,hx,hr];exact h _ _ h2 h3 h4
theorem rC {ops:Array Oper} {o:Oper} {a:Act} {w:World} {K:Act->World->Prop} {Q:Exit->Act->World->Prop} {E:Prop} (hgd:o.guard=none) (s x:Operand) (t:TypeId)
  (ho:o.op=.call { callee:=.builtin .append,args:=#[s,x],argTypes:=#[t,t] }) (ht:Tryz.prog.underlying t=some (.slice 3))
  (base:Nat) (v:Value) (xs:List Int) (hs:a.eval s=v) (hown:bq w base v xs)
  (g1:Nat) (u:Int) (hx:a.eval x=.slice (some ⟨g1,0,none⟩) 1 1) (hnew:w.cell? ⟨g1,0,none⟩=some (.int .i64 u)) (hn:xs.length+1<=1000000) (hbase:base<=w.heap.size)
  (h:∀v' w',bq w' base v' (xs++[u])->aa v.ownBlock.toList w w'->(∀k,v'.ownBlock=some k->v.ownBlock=some k\/w.heap.size<=k)->K (a.put o.dst v') w') :
  if Region.wanted o (yielded ops a.tmps)=true then Oper.wp Tryz.prog o a w K Q else E:=by
 have hw:Region.wanted o (yielded ops a.tmps)=true:=by simp [Region.wanted,hgd]
 rw [if_pos hw];exact uR s x t ho ht base v xs hs hown g1 u hx hnew hn hbase h
theorem wJ {ops:Array Oper} {rest:List Oper} {o:Oper} {a:Act} {w:World} {Q:Exit->Act->World->Prop} (hgd:o.guard=none) (s x:Operand) (t:TypeId)
  (ho:o.op=.call { callee:=.builtin .append,args:=#[s,x],argTypes:=#[t,t] }) (ht:Tryz.prog.underlying t=some (.slice 3))
  (base:Nat) (v:Value) (xs:List Int) (hs:a.eval s=v) (hown:bq w base v xs)
  (g1:Nat) (u:Int) (hx:a.eval x=.slice (some ⟨g1,0,none⟩) 1 1) (hnew:w.cell? ⟨g1,0,none⟩=some (.int .i64 u)) (hn:xs.length+1<=1000000) (hbase:base<=w.heap.size)
  (h:∀v' w',bq w' base v' (xs++[u])->aa v.ownBlock.toList w w'->(∀k,v'.ownBlock=some k->v.ownBlock=some k\/w.heap.size<=k)->wpList Tryz.prog ops Q rest (a.put o.dst v') w'):wpList Tryz.prog ops Q (o::rest) a w:=
 wpList_plain hgd fun _ hK=>uR s x t ho ht base v xs hs hown g1 u hx hnew hn hbase fun v' w' h2 h3 h4=>hK _ _ (h v' w' h2 h3 h4)
theorem iw.tail {w:World} {F:List Nat} {v:Value} {x:Int} {xs:List Int} (h:iw w F v (x::xs)):iw w F (tailV v) xs:=by
 obtain ⟨a,cap,rfl,h1,h2,h3⟩:=h;obtain ⟨g,off,rfl,hg,hF,_⟩:=h3 0 x rfl;simp only [List.length_cons] at h1 ⊢;unfold tailV;simp only [Nat.add_sub_cancel];refine ⟨_,_,rfl,ω,ω,fun j u hj=>?_⟩;have hjl:j<xs.length:=(List.getElem?_eq_some_iff.1 hj).1;rw [if_neg ω];obtain ⟨g2,off2,he,hg2,hF2,hc⟩:=h3 (j+1) u (by simpa using hj);simp only [Option.some.injEq,Addr.mk.injEq,and_true] at he;obtain ⟨rfl,rfl⟩:=he;exact ⟨g,off+1,by simp [Addr.add_lit],hg,hF,by rw [show off+1+j=off+(j+1) by omega];exact hc⟩
theorem iw.YV {w:World} {F:List Nat} {lo:Nat} {v:Value} {xs:List Int} (h:jy w lo v xs.length (aU xs)) (hF:∀g,g∈F->g<lo):iw w F v xs:=by
 obtain ⟨a,cap,rfl,h1,h2,h3⟩:=h.open;refine ⟨a,cap,rfl,h2,h1,fun j u hj=>?_⟩;have hjl:j<xs.length:=(List.getElem?_eq_some_iff.1 hj).1;obtain ⟨g,rfl,hlo,hg,hc⟩:=h3 ω;exact ⟨g,0,rfl,hg,fun hm=>by have:=hF g hm;omega,by rw [Nat.zero_add];exact hc j _ (by unfold aU;rw [List.getElem?_map,hj];rfl)⟩
theorem iw.upd {w w':World} {F G:List Nat} {v:Value} {xs:List Int} (h:iw w F v xs) (hu:aa G w w') (hG:∀g,g∈G->g∈F):iw w' F v xs:=by
 obtain ⟨a,cap,rfl,h1,h2,h3⟩:=h;refine ⟨a,cap,rfl,h1,h2,fun j u hj=>?_⟩;obtain ⟨g,off,rfl,hg,hF,hc⟩:=h3 j u hj;exact ⟨g,off,rfl,Nat.lt_of_lt_of_le hg hu.size,hF,by rw [hu.cell hg (fun hm=>hF (hG _ hm))];exact hc⟩
theorem RN (bt ba lo n:Nat) (S:CS) (v:Value) (l:List Int) (w:World) (h:aX w bt ba lo n S) (F:List Nat) (hv:iw w F v l) :
  Calls Tryz.prog 200 #[.pointer (some ⟨bt,0,none⟩),v] w fun e w'=>e=.returned (.bool (N7 n S l))/\w'=w:=by
 obtain ⟨a,cap,rfl,hlc,hcp,hp⟩:=hv;have HP:=χ hp;clear hp;unfold N7;generalize hlen:l.length=len at *;have HLEN:=χ hlen;clear hlen;have kR:=fun x=>wY bt ba lo n S x w h;have kD:=fun x=>qU bt ba lo n S x w h;clear h
 go_enter Tryz.func200,Tryz.ntmps200
 go_wp2
 go_loop [9] (fun i=>∃k:Nat,k<=len/\i=.int .i64 (k:Int)/\wH n S l k=true) (fun i=>len-(intOf i).toNat)
 case atStart=>exact ⟨0,ω,rfl,rfl⟩
 case round=>
  obtain ⟨k,hk,rfl,ht⟩:=hrel
  by_cases hlt:k<len
  ·obtain ⟨g,off,rfl,_,_,c1⟩:=HP.out k (l.getD k 0) (by simp [φ,HLEN.out,hlt]);have c2:0<k->w.cell? ⟨g,off+(k-1),none⟩=some (.int .i64 (l.getD (k-1) 0)):=fun hk0=>by
    have hk1:k-1<l.length:=by rw [HLEN.out];omega
    obtain ⟨g2,off2,he,_,_,c⟩:=HP.out (k-1) (l.getD (k-1) 0) (by simp [φ,hk1]);simp only [Option.some.injEq,Addr.mk.injEq,and_true] at he;obtain ⟨rfl,rfl⟩:=he;exact c
   have hsu:=Jn n S l k;have hno:=SQ n S l k ht;rw [ht,Bool.true_and] at hsu;unfold rowOk at hsu hno;have HS:=χ hsu;have HN:=χ hno;have k1:=kR (l.getD k 0);have k2:=kD (l.getD k 0);have k3:=kD (l.getD (k-1) 0);clear hsu hno ht kR kD;generalize l.getD k 0=x at *;generalize l.getD (k-1) 0=y at *;generalize oV n S x=b at *;generalize oP n S x=d at *;generalize oP n S y=d2 at *;cases b with
   | false=>
    go_wp2_with (go_at_call 198;refine (k1).mono ?_;rintro e w' ⟨rfl,rfl⟩)
    go_ret;exact ⟨bf (HN.out rfl _ hlt).symm,rfl⟩
   | true=>
    by_cases hk0:k=0
    ·subst hk0;clear c2;rw [Nat.add_zero] at c1
     go_wp2_with (go_at_call 198;refine (k1).mono ?_;rintro e w' ⟨rfl,rfl⟩)
     go_round
     case rel=>exact ⟨1,ω,rfl,HS.out⟩
     case measure=>simp [intOf];omega
    ·have c3:=c2 ω;have hk1:1<=k:=ω;clear c2;obtain ⟨k',rfl⟩:∃k',k=k'+1:=⟨k-1,ω⟩;simp only [Nat.add_sub_cancel] at c3
     by_cases hd:d2<d
     ·have hd':¬ (d<=d2):=ω
      go_wp2_with (first|(go_at_call 198;(with_reducible refine (k1).mono ?_);rintro e w' ⟨rfl,rfl⟩)|(go_at_call 204;(with_reducible refine (k3).mono ?_);rintro e w' ⟨rfl,rfl⟩)|(go_at_call 204;(with_reducible refine (k2).mono ?_);rintro e w' ⟨rfl,rfl⟩))
      go_round
      case rel=>exact ⟨k'+1+1,ω,by go_num,by rw [HS.out];simp [hd]⟩
      case measure=>simp [intOf];omega
     ·have hd':d<=d2:=ω
      go_wp2_with (first|(go_at_call 198;(with_reducible refine (k1).mono ?_);rintro e w' ⟨rfl,rfl⟩)|(go_at_call 204;(with_reducible refine (k3).mono ?_);rintro e w' ⟨rfl,rfl⟩)|(go_at_call 204;(with_reducible refine (k2).mono ?_);rintro e w' ⟨rfl,rfl⟩))
      go_ret;exact ⟨bf (HN.out ζ _ hlt).symm,rfl⟩
  ·obtain rfl:k=len:=ω;go_wp2;go_ret;exact ⟨by first|rfl|exact bf ht.symm,rfl⟩
theorem GA (w:World) (F:List Nat) (v:Value) (l:List Int) (x:Int) (h:iw w F v l) :
  Calls Tryz.prog 189 #[v,.int .i64 x] w fun e w'=>e=.returned (.int .i64 (idxOf l x))/\w'=w:=by
 obtain ⟨a,cap,rfl,hlc,hcp,hp⟩:=h;have HP:=χ hp;clear hp;generalize hlen:l.length=len at *;have HLEN:=χ hlen;clear hlen
 go_enter Tryz.func189,Tryz.ntmps189
 go_wp2
 go_loop [8] (fun i=>∃q:Nat,q<=len/\i=.int .i64 (q:Int)/\x∉l.take q) (fun i=>len-(intOf i).toNat)
 case atStart=>exact ⟨0,ω,rfl,σ⟩
 case round=>
  obtain ⟨q,hq,rfl,hn⟩:=hrel
  by_cases hlt:q<len
  ·obtain ⟨y,pY⟩:∃y,l[q]?=some y:=⟨l[q]'(by rw [HLEN.out];exact hlt),σ⟩;obtain ⟨gb,off,rfl,_,_,hc⟩:=HP.out q y pY
   by_cases hxy:x=y
   ·subst hxy;have hi:=GD l x q hn pY;have HI:=χ hi;clear hn pY hi;go_wp2;go_ret;exact ⟨j5 HI.out.symm,rfl⟩
   ·have b1:(x == y)=false:=by simpa using hxy
    have hn2:x∉l.take (q+1):=by rw [List.take_add_one,pY];simp;exact ⟨hn,hxy⟩
    have HN2:=χ hn2;clear hn pY hn2 hxy;go_wp2
    go_round
    case rel=>exact ⟨q+1,ω,by go_num,HN2.out⟩
    case measure=>simp [intOf];omega
  ·obtain rfl:q=len:=ω;rw [List.take_of_length_le (by rw [HLEN.out];omega)] at hn;have HI:=χ (AY l x hn);clear hn;go_wp2;go_ret;exact ⟨j5 HI.out.symm,rfl⟩
theorem Hy (w:World) (F:List Nat) (v:Value) (l:List Int) (x:Int) (h:iw w F v l) :
  Calls Tryz.prog 203 #[v,.int .i64 x] w fun e w'=>e=.returned (.bool (decide (x∈l)))/\w'=w:=by
 have k1:=GA w F v l x h;obtain ⟨a,cap,rfl,_⟩:=h
 by_cases hx:x∈l
 ·obtain ⟨i,hi,he,_⟩:=wD l x hx;rw [he] at k1
  go_enter Tryz.func203,Tryz.ntmps203
  go_wp2_with ((go_at_call 189;(with_reducible refine (k1).mono ?_);rintro e w9 ⟨rfl,aM⟩;rw [aM];clear aM w9))
  go_ret;exact ⟨bf (by simp [hx]),rfl⟩
 ·rw [AY l x hx] at k1
  go_enter Tryz.func203,Tryz.ntmps203
  go_wp2_with ((go_at_call 189;(with_reducible refine (k1).mono ?_);rintro e w9 ⟨rfl,aM⟩;rw [aM];clear aM w9))
  go_ret;exact ⟨bf (by simp [hx]),rfl⟩
theorem TP (w:World) (F:List Nat) (B7:Nat) (v:Value) (l:List Int) (x:Int) (h:iw w F v l) (hr:aO w B7 26 1 (fun _=>v)) :
  Calls Tryz.prog 202 #[.int .i64 x,.pointer (some ⟨B7,0,none⟩)] w fun e w'=>e=.returned (.bool (decide (x∈l)))/\w'=w:=by
 have k1:=Hy w F v l x h;have c0:=hr.cell 0 ω;obtain ⟨a,cap,rfl,_⟩:=h
 go_enter Tryz.func202,Tryz.ntmps202
 go_wp2_with ((go_at_call 203;(with_reducible refine (k1).mono ?_);rintro e w9 ⟨rfl,aM⟩;rw [aM];clear aM w9))
 go_ret;exact ⟨rfl,rfl⟩
theorem Jb (w:World) (F:List Nat) (B7:Nat) (va v:Value) (A l:List Int) (ha:iw w F va A) (h:iw w F v l) (hr:aO w B7 26 1 (fun _=>v)) :
  Calls Tryz.prog 197 #[va,.func (Fn.func 202) #[] #[.pointer (some ⟨B7,0,none⟩)]] w fun e w'=>(∃i:Int,e=.returned (.int .i64 i)/\decide (0<=i)=A.any (fun x=>decide (x∈l)))/\w'=w:=by
 have kC:=fun x=>TP w F B7 v l x h hr;clear h hr;obtain ⟨a,cap,rfl,hlc,hcp,hp⟩:=ha;have HP:=χ hp;clear hp;generalize hlen:A.length=len at *;have HLEN:=χ hlen;clear hlen
 go_enter Tryz.func197,Tryz.ntmps197
 go_wp2
 go_loop [8] (fun i=>∃q:Nat,q<=len/\i=.int .i64 (q:Int)/\(A.take q).any (fun x=>decide (x∈l))=false) (fun i=>len-(intOf i).toNat)
 case atStart=>exact ⟨0,ω,rfl,σ⟩
 case round=>
  obtain ⟨q,hq,rfl,hn⟩:=hrel
  by_cases hlt:q<len
  ·obtain ⟨y,pY⟩:∃y,A[q]?=some y:=⟨A[q]'(by rw [HLEN.out];exact hlt),σ⟩;obtain ⟨gb,off,rfl,_,_,hc⟩:=HP.out q y pY;have k1:=kC y
   by_cases hy:y∈l
   ·rw [decide_eq_true hy] at k1;have hfin:A.any (fun x=>decide (x∈l))=true:=List.any_eq_true.2 ⟨y,List.mem_of_getElem? pY,by simpa using hy⟩;have HF:=χ hfin;clear hn pY hy kC hfin
    go_wp2_with ((go_at_call 202;(with_reducible refine (k1).mono ?_);rintro e w9 ⟨rfl,aM⟩;rw [aM];clear aM w9))
    go_ret;exact ⟨⟨_,rfl,by rw [HF.out];simp⟩,rfl⟩
   ·rw [decide_eq_false hy] at k1;have hn2:(A.take (q+1)).any (fun x=>decide (x∈l))=false:=by rw [List.take_add_one,pY,List.any_append,hn];simpa using hy
    have HN2:=χ hn2;clear hn pY hn2 hy kC
    go_wp2_with ((go_at_call 202;(with_reducible refine (k1).mono ?_);rintro e w9 ⟨rfl,aM⟩;rw [aM];clear aM w9))
    go_round
    case rel=>exact ⟨q+1,ω,by go_num,HN2.out⟩
    case measure=>simp [intOf];omega
  ·obtain rfl:q=len:=ω;rw [List.take_of_length_le (by rw [HLEN.out];omega)] at hn;have HN:=χ hn;clear hn kC;go_wp2;go_ret;exact ⟨⟨_,rfl,by rw [HN.out];rfl⟩,rfl⟩
theorem BC (w:World) (F:List Nat) (B7:Nat) (va v:Value) (A l:List Int) (ha:iw w F va A) (h:iw w F v l) (hr:aO w B7 26 1 (fun _=>v)) :
  Calls Tryz.prog 201 #[va,.func (Fn.func 202) #[] #[.pointer (some ⟨B7,0,none⟩)]] w fun e w'=>e=.returned (.bool (A.any (fun x=>decide (x∈l))))/\w'=w:=by
 have k1:=Jb w F B7 va v A l ha h hr;generalize A.any (fun x=>decide (x∈l))=b at *;obtain ⟨a,cap,rfl,_⟩:=ha;clear h hr
 go_enter Tryz.func201,Tryz.ntmps201
 go_wp2_with (go_at_call 197;(with_reducible refine (k1).mono ?_);rintro e w9 ⟨⟨i,rfl,hi⟩,aM⟩;rw [aM];clear aM w9;have HI:=χ hi;clear hi)
 go_ret;exact ⟨bf (by first|exact HI.out|(rw [←HI.out];simp)),rfl⟩
def oN (S:CS) (v:Value) (a b:Nat):CS:=(S.BF a v (S.k a++[(b:Int)])).sU b a
theorem Im (bt ba lo n:Nat) (S:CS) (a b:Nat) (w:World) (h:aX w bt ba lo n S) (ha:a<n) (hb:b<n) (hra:oV n S a=true) (hrb:oV n S b=true) (hne:a≠b) (hd:oP n S a=oP n S b) (hlen:(S.k a).length+1<=n) :
    Calls Tryz.prog 206 #[.pointer (some ⟨bt,0,none⟩),.int .i64 (a:Int),.int .i64 (b:Int)] w fun e w'=>∃v,e=.returned (.bool true)/\aX w' bt ba lo n (oN S v a b)/\aa (ba::S.blk n) w w'/\(∀g,g∈(oN S v a b).blk n->g∈S.blk n\/w.heap.size<=g):=by
  have hle:=h.le;have hl1:=h.Us;have hl2:=h.Lg;have hlow:=h.low;have hnb:=h.ne;have k1:=wY bt ba lo n S a w h;have k2:=wY bt ba lo n S b w h;have k3:=qU bt ba lo n S a w h;have k4:=qU bt ba lo n S b w h;rw [hra] at k1;rw [hrb] at k2;rw [hd] at k3;have b1:((a:Int) == (b:Int))=false:=ζ;have ho:=h.own a ha;obtain ⟨sa,cap,hv,hcap⟩:=bu ho;have WU:∀g,g∈(S.v a).ownBlock.toList->lo<=g/\g<w.heap.size:=fun g hg=>ho.lt g (by simpa using hg);have r1:∀W,aa (S.v a).ownBlock.toList w W->W.cell? ⟨bt,0,none⟩=some (.slice (some ⟨ba,0,none⟩) n n):=fun W hW=>by
    rw [hW.cell h.head.lt (fun hm=>by have:=WU _ hm;simp at this;omega)];exact h.head.cell 0 ω
  have r2:∀W,aa (S.v a).ownBlock.toList w W->W.cell? ⟨ba,a*2,none⟩=some (S.v a):=fun W hW=>by
    rw [hW.cell h.row.lt (fun hm=>by have:=WU _ hm;simp at this;omega)];exact h.row.cellAt (a*2) ω (nP S a)
  have r3:∀W,aa (S.v a).ownBlock.toList w W->W.cell? ⟨ba,b*2+1,none⟩=some (.int .i64 (S.u b)):=fun W hW=>by
    rw [hW.cell h.row.lt (fun hm=>by have:=WU _ hm;simp at this;omega)];exact h.row.cellAt (b*2+1) ω (uG S b)
  have q1:∀W,aa (S.v a).ownBlock.toList w W->W.frozen? ⟨ba,a*2,none⟩=false:=fun W hW=>by
    rw [hW.frozen h.row.lt (fun hm=>by have:=WU _ hm;simp at this;omega)];exact h.row.free _
  have q2:∀W,aa (S.v a).ownBlock.toList w W->W.frozen? ⟨ba,b*2+1,none⟩=false:=fun W hW=>by
    rw [hW.frozen h.row.lt (fun hm=>by have:=WU _ hm;simp at this;omega)];exact h.row.free _
  have s0:aa (S.v a).ownBlock.toList w w:=aa.refl _ _;have H:=χ h;have HV:=χ hv;have hk:=fG (S.k a);have HLEN:=χ hlen;generalize hva:S.v a=va at *;have HVA:=χ hva;subst hv;clear h hra hrb hd hva hne
  go_enter Tryz.func206,Tryz.ntmps206
  go_wp2_with (first
    | (go_at_call 198;(with_reducible refine (k1).mono ?_);rintro e w9 ⟨rfl,aM⟩;rw [aM];clear aM w9)
    | (go_at_call 198;(with_reducible refine (k2).mono ?_);rintro e w9 ⟨rfl,aM⟩;rw [aM];clear aM w9)
    | (go_at_call 204;(with_reducible refine (k3).mono ?_);rintro e w9 ⟨rfl,aM⟩;rw [aM];clear aM w9)
    | (go_at_call 204;(with_reducible refine (k4).mono ?_);rintro e w9 ⟨rfl,aM⟩;rw [aM];clear aM w9))
  have s1:aa (Value.slice sa (S.k a).length cap).ownBlock.toList w (w.drew.alloc (.cells #[.int .i64 (b:Int)] 3)):=s0.drew.alloc _;have g1:=r1 _ s0;have g2:=r2 _ s0;have a1:=r1 _ (s0.alloc (.cells #[.int .i64 (b:Int)] 3));have a2:=r2 _ (s0.alloc (.cells #[.int .i64 (b:Int)] 3))
  go_region_law
    (first
      | (refine kE rfl _ _ 26 rfl lo 3 (.int .i64 0) 1 8 Tryz.underlying26 fK rfl δ (.slice sa (S.k a).length cap) (S.k a).length (aU (S.k a)) rfl (ho.drew.alloc _) w.heap.size [.int .i64 (b:Int)] rfl rfl (fun j u hj=>mJ w [.int .i64 (b:Int)] 3 j u hj) (by simp [Value.oneCell']) μ ω ζ ?_
         intro v2 w2 ho2 hu2 hv2;have hS2:aa (Value.slice sa (S.k a).length cap).ownBlock.toList w w2:=s1.trans hu2;have g3:=r1 _ hS2;have g4:=r2 _ hS2;have g5:=q1 _ hS2
         obtain ⟨a2,cap2,rfl,hcap2⟩:=bu ho2))
  all_goals
    have ho3:w2.ownsRow lo 3 1 (.slice a2 ((S.k a).length+1) cap2) (S.k a++[(b:Int)]).length (aU (S.k a++[(b:Int)])):=by rw [bN,υ];exact ho2
    have hF:=H.out.V7 a ha (.slice a2 ((S.k a).length+1) cap2) (S.k a++[(b:Int)]) hS2 (fun g hg=>by rw [HVA.out];simpa using hg) ho3 (fun g hg=>by
      rcases hv2 with h|h
      · rw [h] at hg;exact Or.inl (by rw [HVA.out];exact hg)
      · rw [h] at hg;simp at hg;exact Or.inr ω) (by rw [υ];exact hlen)
    have e0:=hF.head.cell 0 ω;have e1:=hF.row.cell (b*2+1) ω;have e2:=hF.row.free (b*2+1);have HF:=χ hF;have HV2:=χ hv2;clear hF hv2 ho2 ho3 r1 r2 r3 q1 q2;go_wp2;go_ret;refine ⟨_,rfl,HF.out.bW b hb a,?_,fun g hg=>?_⟩
    · refine ((hS2.mono (fun g hg=>?_)).setCell (Or.inl σ) _).setCell (Or.inl σ) _
      simp only [ρ];refine Or.inr ((S.j6 n g).2 ⟨a,ha,?_⟩);rw [HVA.out];simpa using hg
    · rcases S.SS a (.slice a2 ((S.k a).length+1) cap2) (S.k a++[(b:Int)]) n g hg with h|h
      · exact Or.inl h
      · rcases HV2.out with h2|h2
        · exact Or.inl ((S.j6 n g).2 ⟨a,ha,by rw [HVA.out,←h2];exact h⟩)
        · rw [h2] at h;simp at h;exact Or.inr ω
end Go.Proofs.YtklibcncmbofpaaGreat
namespace Go.Proofs.YtklibcncmbofpaaGreat
def jW (lt:Int->Int->Bool) (a b:Nat):Nat:=if lt b a then b else a
def nu (lt:Int->Int->Bool) (a b:Nat):Nat:=if lt b a then a else b
structure CF where
 k:Nat->List Int
 u:Nat->Int
def CS.f (S:CS):CF:=⟨S.k,S.u⟩
def zB (n:Nat) (F:CF) (x:Int):Bool:=decide (0<=x/\x<n) && F.u x.toNat == -1
def dM (n:Nat) (F:CF) (x:Int):Int:=if 0<=x/\x<n then (F.k x.toNat).length else 0
theorem Zj (n:Nat) (S:CS) (x:Int):oV n S x=zB n S.f x:=rfl
theorem WV (n:Nat) (S:CS) (x:Int):oP n S x=dM n S.f x:=rfl
def iH (F:CF) (a b:Nat):CF:=⟨fun y=>if y=a then F.k a++[(b:Int)] else F.k y,fun y=>if y=b then (a:Int) else F.u y⟩
theorem Zg (S:CS) (v:Go.Value) (a b:Nat):(oN S v a b).f=iH S.f a b:=rfl
structure CC where
 F:CF
 A:List Int
 B:List Int
 N:List Int
 O:List Int
 q:Nat
def takeA (n k:Nat) (C:CC):CC:=match C.A with|x::t=>(if dM n C.F x=k then { C with A:=t,N:=C.N++[x] } else C)|[]=>C
def takeB (n k:Nat) (C:CC):CC:=match C.B with|x::t=>(if dM n C.F x=k then { C with B:=t,N:=C.N++[x] } else C)|[]=>C
def fZ (C:CC):CC:=match C.N with|[x]=>{ C with N:=[],O:=C.O++[x] }|[x,y,z]=>{ C with N:=[y,z],O:=C.O++[x] }|_=>C
def nA (lt:Int->Int->Bool) (C:CC):CC:=match C.N with
 | [x,y]=>{ C with F:=iH C.F (jW lt x.toNat y.toNat) (nu lt x.toNat y.toNat),N:=[(jW lt x.toNat y.toNat:Int)],q:=C.q+1 }
 | _=>C
def F7 (lt:Int->Int->Bool) (n k:Nat) (C:CC):CC:=nA lt (fZ (takeB n k (takeA n k C)))
def gZ (lt:Int->Int->Bool) (n:Nat):Nat->CC->CC
 | 0,C=>C
 | k+1,C=>F7 lt n k (gZ lt n k C)
structure KW (dom:Int->Prop) (lt:Int->Int->Bool) (n k:Nat) (C:CC):Prop where
 few:C.N.length<=1
 join:∀x y,(fZ (takeB n k (takeA n k C))).N=[x,y]->∃a b:Nat,x=a/\y=b/\dom a/\dom b/\a<n/\b<n/\a≠b/\zB n (fZ (takeB n k (takeA n k C))).F a=true/\zB n (fZ (takeB n k (takeA n k C))).F b=true/\
  dM n (fZ (takeB n k (takeA n k C))).F a=dM n (fZ (takeB n k (takeA n k C))).F b/\((fZ (takeB n k (takeA n k C))).F.k a).length+1<=n/\((fZ (takeB n k (takeA n k C))).F.k b).length+1<=n
 small:C.A.length+C.B.length+C.O.length<=100000
 asked:C.q<=1000000
 ends:C.A≠[]\/C.B≠[]\/C.N≠[]->k<=n
def tA (n k:Nat) (A:List Int) (F:CF):Bool:=match A with|x::_=>dM n F x == (k:Int)|[]=>false
def tot (C:CC):Nat:=C.A.length+C.B.length+C.N.length+C.O.length
theorem xy (n k:Nat) (C:CC):tot (takeA n k C)=tot C/\(takeA n k C).N.length<=C.N.length+1:=by
 unfold takeA tot
 split
 ·rename_i x t h
  split
  ·simp only [h,υ,List.length_cons,List.length_nil];omega
  ·simp
 ·simp
theorem x8 (n k:Nat) (C:CC):tot (takeB n k C)=tot C/\(takeB n k C).N.length<=C.N.length+1:=by
 unfold takeB tot
 split
 ·rename_i x t h
  split
  ·simp only [h,υ,List.length_cons,List.length_nil];omega
  ·simp
 ·simp
theorem M9 (C:CC) (h3:C.N.length<=3):tot (fZ C)=tot C/\(fZ C).N.length<=2:=by
 obtain ⟨F,A,B,N,O,q⟩:=C;simp only at h3
 match N,h3 with
 | [],_=>simp [fZ,tot]
 | [x],_=>simp [fZ,tot];try omega
 | [x,y],_=>simp [fZ,tot]
 | [x,y,z],_=>simp [fZ,tot];try omega
 | _::_::_::_::_,h3=>simp at h3;try omega
theorem PL (n k:Nat) (C:CC):(fZ (takeB n k (takeA n k C))).q=C.q:=by
 have h1:∀C,(fZ C).q=C.q:=fun C=>by unfold fZ;split<;>rfl
 have h2:∀C,(takeB n k C).q=C.q:=fun C=>by
  unfold takeB;split
  ·split<;>rfl
  ·rfl
 have h3:∀C,(takeA n k C).q=C.q:=fun C=>by
  unfold takeA;split
  ·split<;>rfl
  ·rfl
 rw [h1,h2,h3]
end Go.Proofs.YtklibcncmbofpaaGreat
namespace Go.Proofs.YtklibcncmbofpaaGreat
open Go Go.RowKit
structure uN where
 ty:TypeId
 p:Nat
 rd:List Nat
 wr:List Nat
 lt:Int->Int->Bool
 dom:Int->Prop
 at_:World->Nat->Prop
 sub:∀x,x∈wr->x∈rd
 low:∀ {w:World} {q:Nat},at_ w q->∀x,x∈rd->x<w.heap.size
 upd:∀ {w w':World} {S:List Nat} {q:Nat},at_ w q->aa S w w'->(∀x,x∈S->x∉rd)->at_ w' q
 asym:∀a b,lt a b=true->lt b a=false
 ahead:∀ {w:World} {q:Nat} (x y:Int),at_ w q->dom x->dom y->q<=1000000->Pk ty p "Ahead" w (fun v=>#[v,.int .i64 x,.int .i64 y]) fun w e w'=>e=.returned (.bool (lt x y))/\at_ w' (q+1)/\aa wr w w'
structure Apart (O:uN) (bt ba n:Nat) (S:CS):Prop where
 bt:bt∉O.rd
 ba:ba∉O.rd
 blk:∀g,g∈S.blk n->g∉O.rd
theorem Apart.rd {O:uN} {bt ba n:Nat} {S:CS} (h:Apart O bt ba n S):∀g,g∈ba::S.blk n->g∉O.rd:=fun g hg=>by
 rcases ρ.1 hg with rfl|hg
 ·exact h.ba
 ·exact h.blk g hg
theorem Apart.wr {O:uN} {bt ba n:Nat} {S:CS} (h:Apart O bt ba n S):bt∉O.wr/\ba∉O.wr/\∀g,g∈S.blk n->g∉O.wr:=
 ⟨fun hm=>h.bt (O.sub _ hm),fun hm=>h.ba (O.sub _ hm),fun g hg hm=>h.blk g hg (O.sub _ hm)⟩
theorem Rb (O:uN) (bt ba lo n:Nat) (S:CS) (asked a b:Nat) (w:World) (h:aX w bt ba lo n S) (hO:O.at_ w asked) (hda:O.dom a) (Z7:O.dom b) (hk:asked<=1000000)
  (ha:a<n) (hb:b<n) (hra:oV n S a=true) (hrb:oV n S b=true) (hne:a≠b) (hd:oP n S a=oP n S b) (hl1:(S.k a).length+1<=n) (hl2:(S.k b).length+1<=n)
  (hA:Apart O bt ba n S) :
  Calls Tryz.prog 205 #[.pointer (some ⟨bt,0,none⟩),.iface O.ty (.pointer (some ⟨O.p,0,none⟩)),.int .i64 (a:Int),.int .i64 (b:Int)] w fun e w'=>
   ∃v,e=.returned (.int .i64 (jW O.lt a b:Int))/\aX w' bt ba lo n (oN S v (jW O.lt a b) (nu O.lt a b))/\O.at_ w' (asked+1)/\aa (O.wr++ba::S.blk n) w w'/\(∀g,g∈(oN S v (jW O.lt a b) (nu O.lt a b)).blk n->g∈S.blk n\/w.heap.size<=g):=by
 obtain ⟨f,fv,hen,hm,hc⟩:=(O.ahead (b:Int) (a:Int) hO Z7 hda hk).now;unfold Enters at hen;have hF:=fun W (hW:aa O.wr w W)=>h.upd hW hA.wr.1 hA.wr.2.1 hA.wr.2.2;have kL1:=fun W (hW:aa O.wr w W)=>Im bt ba lo n S a b W (hF W hW) ha hb hra hrb hne hd hl1;have kL2:=fun W (hW:aa O.wr w W)=>Im bt ba lo n S b a W (hF W hW) hb ha hrb hra (Ne.symm hne) hd.symm hl2;have HS:=χ hA.rd;clear hF h hO hA hd hra hrb hda Z7;unfold jW nu;generalize O.ty=ty at *;cases hab:O.lt b a with
 | true=>
  rw [hab] at hc;rw [if_pos rfl,if_pos rfl];clear hab kL1
  go_enter Tryz.func205,Tryz.ntmps205
  go_wp2_with (first
   | ((with_reducible refine (hc).mono ?_);rintro e w1 ⟨rfl,hL1,hu1⟩)
   | ((go_at_call 206;(with_reducible refine (kL2 _ hu1).mono ?_));rintro e w2 ⟨v2,rfl,hF2,hu2,hb2⟩))
  go_ret;refine ⟨_,rfl,hF2,O.upd hL1 hu2 HS.out,(hu1.mono (by simp +contextual)).trans (hu2.mono (fun g hg=>τ.2 (Or.inr hg))),fun g hg=>?_⟩;rcases hb2 g hg with h|h
  ·exact Or.inl h
  ·exact Or.inr (Nat.le_trans hu1.size h)
 | false=>
  rw [hab] at hc;rw [if_neg σ,if_neg σ];clear hab kL2
  go_enter Tryz.func205,Tryz.ntmps205
  go_wp2_with (first
   | ((with_reducible refine (hc).mono ?_);rintro e w1 ⟨rfl,hL1,hu1⟩)
   | ((go_at_call 206;(with_reducible refine (kL1 _ hu1).mono ?_));rintro e w2 ⟨v2,rfl,hF2,hu2,hb2⟩))
  go_ret;refine ⟨_,rfl,hF2,O.upd hL1 hu2 HS.out,(hu1.mono (by simp +contextual)).trans (hu2.mono (fun g hg=>τ.2 (Or.inr hg))),fun g hg=>?_⟩;rcases hb2 g hg with h|h
  ·exact Or.inl h
  ·exact Or.inr (Nat.le_trans hu1.size h)
theorem iw.shape {w:World} {F:List Nat} {v:Value} {xs:List Int} (h:iw w F v xs):∃a cap,v=.slice a xs.length cap/\cap<=9223372036854775807:=by
 obtain ⟨a,cap,rfl,_,h2,_⟩:=h;exact ⟨a,cap,rfl,h2⟩
structure KM (O:uN) (w0 w:World) (bt ba lo n:Nat) (F0:List Nat) (va vb vn vo:Value) (C:CC):Prop where
 vC:∃S:CS,S.f=C.F/\aX w bt ba lo n S/\Apart O bt ba n S/\(∀g,g∈S.blk n->g∈F0\/w0.heap.size<g)/\(∀g,vn.ownBlock=some g->g∉S.blk n)/\(∀g,vo.ownBlock=some g->g∉S.blk n)
 ZZ:O.at_ w C.q
 a:iw w0 F0 va C.A
 b:iw w0 F0 vb C.B
 box:aO w w0.heap.size 26 1 (fun _=>vb)
 now:bq w (w0.heap.size+1) vn C.N
 out:bq w (w0.heap.size+1) vo C.O
 sep:∀g,vn.ownBlock=some g->vo.ownBlock≠some g
 upd:aa F0 w0 w
 old:∀g,g∈F0->g<w0.heap.size
 LM:(∀x,x∈O.wr->x∈F0)/\ba∈F0
 t0:bt<w0.heap.size
 k0:∀x,x∈O.rd->x<w0.heap.size
theorem iw.head {w:World} {F:List Nat} {a:Option Addr} {n c:Nat} {x:Int} {xs:List Int} (h:iw w F (.slice a n c) (x::xs)):∃g off,a=some ⟨g,off,none⟩/\g<w.heap.size/\g∉F/\w.cell? ⟨g,off,none⟩=some (.int .i64 x):=by
 obtain ⟨a',cap,he,_,_,h3⟩:=h;obtain ⟨g,off,rfl,hg,hF,hc⟩:=h3 0 x rfl;cases he;exact ⟨g,off,rfl,hg,hF,by rw [Nat.add_zero] at hc;exact hc⟩
theorem KM.deg {w0 w:World} {O:uN} {bt ba lo n:Nat} {F0:List Nat} {va vb vn vo:Value} {C:CC} (h:KM O w0 w bt ba lo n F0 va vb vn vo C) (x:Int) :
  Calls Tryz.prog 204 #[.pointer (some ⟨bt,0,none⟩),.int .i64 x] w fun e w'=>e=.returned (.int .i64 (dM n C.F x))/\w'=w:=by
 obtain ⟨S,h1,h2,_⟩:=h.vC;have:=qU bt ba lo n S x w h2;rw [WV,h1] at this;exact this
theorem KM.far {w0 w:World} {O:uN} {bt ba lo n:Nat} {F0:List Nat} {va vb vn vo:Value} {C:CC} (h:KM O w0 w bt ba lo n F0 va vb vn vo C) {g off:Nat} {u:Value} (hg:g<w0.heap.size) (hF:g∉F0) (hc:w0.cell? ⟨g,off,none⟩=some u) {G:List Nat} {W:World} (hu:aa G w W) (hG:∀x,x∈G->w0.heap.size<=x) :
  W.cell? ⟨g,off,none⟩=some u:=by
 rw [hu.cell (Nat.lt_of_lt_of_le hg h.upd.size) (fun hm=>by have:=hG _ hm;simp at this;omega),h.upd.cell hg hF];exact hc
theorem KM.Tk {w0 w:World} {O:uN} {bt ba lo n:Nat} {F0:List Nat} {va vb vn vo:Value} {C:CC} (h:KM O w0 w bt ba lo n F0 va vb vn vo C) {W:World} {vn':Value} {N':List Int}
  (hu:aa vn.ownBlock.toList w W) (ho:bq W (w0.heap.size+1) vn' N') (hb:∀g,vn'.ownBlock=some g->vn.ownBlock=some g\/w.heap.size<=g):KM O w0 W bt ba lo n F0 va vb vn' vo { C with N:=N' }:=by
 obtain ⟨S,h1,h2,h3,h4,h5,h6⟩:=h.vC;have hn:∀g,g∈vn.ownBlock.toList->w0.heap.size<g/\g∉S.blk n/\vo.ownBlock≠some g:=fun g hg=>by
  have hg':vn.ownBlock=some g:=by simpa using hg
  exact ⟨by have:=(h.now.lt g hg').1;omega,h5 g hg',h.sep g hg'⟩
 have hbt:=h.t0;have Pg:=h.old ba h.LM.2;have hk:=h.k0;have hsz:=h.upd.size
 refine ⟨⟨S,h1,h2.upd hu (fun hm=>by have:=hn _ hm;omega) (fun hm=>by have:=hn _ hm;omega) (fun g hg hm=>(hn g hm).2.1 hg),h3,h4,fun g hg hm=>?_,h6⟩,O.upd h.ZZ hu (fun g hg hm=>by have:=hn g hg;have:=hk g hm;omega),h.a,h.b,h.box.upd hu (fun hm=>by have:=hn _ hm;omega),ho,
  h.out.upd hu (fun g hg hm=>(hn g hm).2.2 hg),fun g hg he=>?_,h.upd.joined hu (fun g hg=>Or.inr (by have:=hn g hg;omega)),h.old,h.LM,h.t0,h.k0⟩
 ·rcases hb g hg with h'|h'
  ·exact h5 g h' hm
  ·have:=(h2.nU hm).2;omega
 ·rcases hb g hg with h'|h'
  ·exact h.sep g h' he
  ·have:=(h.out.lt g he).2;omega
theorem KM.abe {w0 w:World} {O:uN} {bt ba lo n:Nat} {F0:List Nat} {va vb vn vo:Value} {C:CC} (h:KM O w0 w bt ba lo n F0 va vb vn vo C) {W:World} {vo':Value} {O':List Int}
  (hu:aa vo.ownBlock.toList w W) (ho:bq W (w0.heap.size+1) vo' O') (hb:∀g,vo'.ownBlock=some g->vo.ownBlock=some g\/w.heap.size<=g):KM O w0 W bt ba lo n F0 va vb vn vo' { C with O:=O' }:=by
 obtain ⟨S,h1,h2,h3,h4,h5,h6⟩:=h.vC;have hn:∀g,g∈vo.ownBlock.toList->w0.heap.size<g/\g∉S.blk n/\vn.ownBlock≠some g:=fun g hg=>by
  have hg':vo.ownBlock=some g:=by simpa using hg
  exact ⟨by have:=(h.out.lt g hg').1;omega,h6 g hg',fun e=>h.sep g e hg'⟩
 have hbt:=h.t0;have Pg:=h.old ba h.LM.2;have hk:=h.k0;have hsz:=h.upd.size
 refine ⟨⟨S,h1,h2.upd hu (fun hm=>by have:=hn _ hm;omega) (fun hm=>by have:=hn _ hm;omega) (fun g hg hm=>(hn g hm).2.1 hg),h3,h4,h5,fun g hg hm=>?_⟩,O.upd h.ZZ hu (fun g hg hm=>by have:=hn g hg;have:=hk g hm;omega),h.a,h.b,h.box.upd hu (fun hm=>by have:=hn _ hm;omega),
  h.now.upd hu (fun g hg hm=>(hn g hm).2.2 hg),ho,fun g hg he=>?_,h.upd.joined hu (fun g hg=>Or.inr (by have:=hn g hg;omega)),h.old,h.LM,h.t0,h.k0⟩
 ·rcases hb g hg with h'|h'
  ·exact h6 g h' hm
  ·have:=(h2.nU hm).2;omega
 ·rcases hb g he with h'|h'
  ·exact h.sep g hg h'
  ·have:=(h.now.lt g hg).2;omega
theorem KM.aTo {w0 w:World} {O:uN} {bt ba lo n:Nat} {F0:List Nat} {va vb vn vo va':Value} {C:CC} (h:KM O w0 w bt ba lo n F0 va vb vn vo C) {A':List Int} (ha:iw w0 F0 va' A'):KM O w0 w bt ba lo n F0 va' vb vn vo { C with A:=A' }:=
 ⟨h.vC,h.ZZ,ha,h.b,h.box,h.now,h.out,h.sep,h.upd,h.old,h.LM,h.t0,h.k0⟩
theorem KM.bTo {w0 w:World} {O:uN} {bt ba lo n:Nat} {F0:List Nat} {va vb vn vo Xx:Value} {C:CC} (h:KM O w0 w bt ba lo n F0 va vb vn vo C) {B':List Int} (hb:iw w0 F0 Xx B') :
  KM O w0 (w.setCell ⟨w0.heap.size,0,none⟩ Xx) bt ba lo n F0 va Xx vn vo { C with B:=B' }:=by
 obtain ⟨S,h1,h2,h3,h4,h5,h6⟩:=h.vC;have hu:aa [w0.heap.size] w (w.setCell ⟨w0.heap.size,0,none⟩ Xx):=(aa.refl _ _).setCell (Or.inl σ) _;have hbt:=h.t0;have Pg:=h.old ba h.LM.2;have hk:=h.k0;refine ⟨⟨S,h1,h2.upd hu ζ ζ (fun g hg hm=>?_),h3,h4,h5,h6⟩,O.upd h.ZZ hu (fun g hg hm=>by have:=hk g hm;simp at hg;omega),h.a,hb,(h.box.set 0 Xx).ext (fun j hj=>ζ),h.now.upd hu (fun g hg hm=>?_),h.out.upd hu (fun g hg hm=>?_),h.sep,h.upd.joined hu (fun g hg=>Or.inr (by simp at hg;omega)),h.old,h.LM,h.t0,h.k0⟩
 ·simp at hm;subst hm;rcases h4 _ hg with h'|h'
  ·have:=h.old _ h';omega
  ·omega
 ·have:=(h.now.lt g hg).1;simp at hm;omega
 ·have:=(h.out.lt g hg).1;simp at hm;omega
theorem KM.YF {w0 w:World} {O:uN} {bt ba lo n:Nat} {F0:List Nat} {va vb vn vo:Value} {C:CC} (h:KM O w0 w bt ba lo n F0 va vb vn vo C) {S:CS} (hS:S.f=C.F) (h2:aX w bt ba lo n S) (h3:Apart O bt ba n S)
  (h4:∀g,g∈S.blk n->g∈F0\/w0.heap.size<g) (h6:∀g,vo.ownBlock=some g->g∉S.blk n) {W:World} {v:Value} {a b:Nat} (hF:aX W bt ba lo n (oN S v a b)) (hL:O.at_ W (C.q+1)) (hu:aa (O.wr++ba::S.blk n) w W)
  (hg:∀g,g∈(oN S v a b).blk n->g∈S.blk n\/w.heap.size<=g) :
  KM O w0 (W.alloc (.cells #[.int .i64 (a:Int)] 3)) bt ba lo n F0 va vb (.slice (some ⟨W.heap.size,0,none⟩) 1 1) vo { C with F:=iH C.F a b,N:=[(a:Int)],q:=C.q+1 }:=by
 have hbt:=h.t0;have Pg:=h.old ba h.LM.2;have hk:=h.k0;have hbx:=h.box.lt;have hsz:=hu.size;have hm:∀g,g∈O.wr++ba::S.blk n->g∈F0\/w0.heap.size<g:=fun g hg=>by
  rcases τ.1 hg with hg|hg
  ·exact Or.inl (h.LM.1 _ hg)
  ·rcases ρ.1 hg with rfl|hg
   ·exact Or.inl h.LM.2
   ·exact h4 g hg
 have hvo:∀g,vo.ownBlock=some g->g∉O.wr++ba::S.blk n:=fun g hg hm=>by
  have:=(h.out.lt g hg).1;rcases τ.1 hm with hm|hm
  ·have:=hk _ (O.sub _ hm);omega
  ·rcases ρ.1 hm with rfl|hm
   ·omega
   ·exact h6 g hg hm
 have ha:aa [] W (W.alloc (.cells #[.int .i64 (a:Int)] 3)):=(aa.refl _ _).alloc _;have hb:w0.heap.size∉O.wr++ba::S.blk n:=fun hm2=>by
  rcases hm _ hm2 with h'|h'
  ·have:=h.old _ h';omega
  ·omega
 refine ⟨⟨oN S v a b,by rw [Zg,hS],hF.aA ha,⟨h3.bt,h3.ba,fun g hg1 hm=>?_⟩,fun g hgm=>?_,fun g hg1 hgm=>?_,fun g hg1 hgm=>?_⟩,O.upd hL ha σ,h.a,h.b,(h.box.upd hu hb).upd ha σ,bq.lit W _ a ω,
  (h.out.upd hu hvo).upd ha σ,fun g hg1 hg2=>?_,(h.upd.joined hu (fun g hg=>by rcases hm g hg with h'|h';exact Or.inl h';exact Or.inr ω)).then ha,h.old,h.LM,h.t0,h.k0⟩
 ·rcases hg _ hg1 with h'|h'
  ·exact h3.blk g h' hm
  ·have:=hk _ hm;omega
 ·rcases hg g hgm with h'|h'
  ·exact h4 g h'
  ·exact Or.inr ω
 ·simp [Value.ownBlock] at hg1;have:=(hF.nU hgm).2;omega
 ·rcases hg g hgm with h'|h'
  ·exact h6 g hg1 h'
  ·have:=(h.out.lt g hg1).2;omega
 ·simp [Value.ownBlock] at hg1;have:=(h.out.lt g hg2).2;omega
end Go.Proofs.YtklibcncmbofpaaGreat
