/-
  Lemmas for RankSplits: SdQ. Conditions: those of each lemma.
-/
import Derived.Test.YtklibcncmbofpaaGreatC14
set_option linter.all false
set_option maxHeartbeats 8000000
set_option maxRecDepth 10000
namespace Go.Proofs.YtklibcncmbofpaaGreat
open Go Go.RowKit
theorem Il (p c:Nat):∀W:World,W.cell? ⟨p,0,none⟩=some (.pointer (some ⟨c,0,none⟩))->(method 429 194 (.pointer (some ⟨p,0,none⟩)) "Has").run Tryz.prog W=.ok (139,.pointer (some ⟨c,0,none⟩)) W:=(by intro W h;unfold method;have hm:∃m,(Array.find? (fun x=>x.name == "Has") Tryz.t194.methods)=some m/\m.path.toList=[⟨237,0,true⟩]/\m.func=some (139,true)/\m.path.isEmpty=false:=⟨(Array.find? (fun x=>x.name == "Has") Tryz.t194.methods).get!,by kernel_rfl,by kernel_rfl,by kernel_rfl,by kernel_rfl⟩;obtain ⟨m,h1,h2,h3,h4⟩:=hm;go_simp;simp only [follow,Place.get];go_simp;(try unfold receiverAt);(try simp only [Place.get]);(try go_simp))
theorem CG (p c:Nat):∀W:World,W.cell? ⟨p,0,none⟩=some (.pointer (some ⟨c,0,none⟩))->(method 429 194 (.pointer (some ⟨p,0,none⟩)) "Entry").run Tryz.prog W=.ok (137,.pointer (some ⟨c,0,none⟩)) W:=(by intro W h;unfold method;have hm:∃m,(Array.find? (fun x=>x.name == "Entry") Tryz.t194.methods)=some m/\m.path.toList=[⟨237,0,true⟩]/\m.func=some (137,true)/\m.path.isEmpty=false:=⟨(Array.find? (fun x=>x.name == "Entry") Tryz.t194.methods).get!,by kernel_rfl,by kernel_rfl,by kernel_rfl,by kernel_rfl⟩;obtain ⟨m,h1,h2,h3,h4⟩:=hm;go_simp;simp only [follow,Place.get];go_simp;(try unfold receiverAt);(try simp only [Place.get]);(try go_simp))
theorem Tz (p:Nat):∀W:World,(method 429 194 (.pointer (some ⟨p,0,none⟩)) "Make").run Tryz.prog W=.ok (274,.pointer (some ⟨p,0,none⟩)) W:=fun _=>by kernel_rfl
theorem J9 (p:Nat):∀W:World,(method 429 194 (.pointer (some ⟨p,0,none⟩)) "Insert").run Tryz.prog W=.ok (273,.pointer (some ⟨p,0,none⟩)) W:=fun _=>by kernel_rfl
theorem Wh (p:Nat):∀W:World,(method 429 194 (.pointer (some ⟨p,0,none⟩)) "Min").run Tryz.prog W=.ok (276,.pointer (some ⟨p,0,none⟩)) W:=fun _=>by kernel_rfl
theorem Hr (p:Nat):∀W:World,(method 429 194 (.pointer (some ⟨p,0,none⟩)) "Extract").run Tryz.prog W=.ok (272,.pointer (some ⟨p,0,none⟩)) W:=fun _=>by kernel_rfl
def Zx (w:World) (p:Nat) (F:List Nat) (A:NS):Prop:=∃B F1 Z gr st,p=B.n0/\F=B.blk F1 Z gr/\ShAt w B F1 Z gr A st
theorem Zx.of {B:HB} {F1:List Nat} {gr:Nat} {A:NS} {F:List Nat} {w w':World} (h:Goes F w w' (fun F'=>∃Z' st',F'=B.blk F1 Z' gr/\ShAt w' B F1 Z' gr A st')):Goes F w w' (fun F'=>Zx w' B.n0 F' A):=by
 obtain ⟨F',⟨Z',st',rfl,hA⟩,hu,hf⟩:=h;exact ⟨_,⟨B,F1,Z',gr,st',rfl,rfl,hA⟩,hu,hf⟩
def xq:dV where
 ty:=194
 at_:=Zx
 upd:=fun h hu hS=>by
  obtain ⟨B,F1,Z,gr,st,rfl,rfl,hL⟩:=h;exact ⟨B,F1,Z,gr,st,rfl,rfl,hL.upd hu hS⟩
 lt:=fun h=>by
  obtain ⟨B,F1,Z,gr,st,rfl,rfl,cr,ptr,G,L,T,hM,hI⟩:=h;exact hM.lt
 ok:=fun h=>by
  obtain ⟨B,F1,Z,gr,st,rfl,rfl,cr,ptr,G,L,T,hM,hI⟩:=h;exact hM.cells.ok
 make:=fun {w p F A} h=>by
  obtain ⟨B,F1,Z,gr,st,rfl,rfl,hL⟩:=h;refine aX 274 (fun _ _=>by kernel_rfl) (Tz _) (fun W hW=>?_);have pg:=hL.ae hW
  by_cases hl:65536<A.hs.length
  ·have e1:bS A=0:=by unfold bS;rw [Δ hl]
   have e2:aC A=A:=by unfold aC;rw [Δ hl]
   rw [e1,e2];refine (KG pg hl).mono ?_;rintro e w' ⟨rfl,F',⟨F2,rfl,hA⟩,hu,hf⟩;exact ⟨rfl,_,⟨B,F2,Z,gr,st,rfl,rfl,hA⟩,hu,hf⟩
  ·have e1:bS A=A.hs.length:=by unfold bS;rw [Γ hl]
   rw [e1];refine (GK pg hl).mono ?_;rintro e w' ⟨rfl,F',⟨F2,Z2,gr2,rfl,hA⟩,hu,hf⟩;exact ⟨rfl,_,⟨B,F2,Z2,gr2,st,rfl,rfl,hA⟩,hu,hf⟩
 insert:=fun {w p F A} g y k s hk hB h=>by
  obtain ⟨B,F1,Z,gr,st,rfl,rfl,hL⟩:=h;refine aX 273 (fun _ _=>by kernel_rfl) (J9 _) (fun W hW=>?_);exact (BJ (hL.ae hW) g y k s hk hB).mono (fun e w' h=>⟨h.1,Zx.of h.2⟩)
 min:=fun {w p F A} g hB h=>by
  obtain ⟨B,F1,Z,gr,st,rfl,rfl,hL⟩:=h;refine aX 276 (fun _ _=>by kernel_rfl) (Wh _) (fun W hW=>?_);refine (Bb (hL.ae hW) g hB).mono ?_;rintro e w' ⟨rfl,rfl⟩;exact ⟨rfl,Goes.stay ⟨B,F1,Z,gr,st,rfl,rfl,hL.ae hW⟩ (aa.refl _ _)⟩
 extract:=fun {w p F A} g m hm h=>by
  obtain ⟨B,F1,Z,gr,st,rfl,rfl,hL⟩:=h;refine aX 272 (fun _ _=>by kernel_rfl) (Hr _) (fun W hW=>?_);exact (xL (hL.ae hW) g m hm).mono (fun e w' h=>⟨h.1,Zx.of h.2⟩)
 has:=fun x h=>by
  obtain ⟨B,F1,Z,gr,st,rfl,rfl,cr,ptr,G,L,T,hM,hI⟩:=h;exact gN 139 (fun _ _=>by kernel_rfl) hM.h0 (Il _ _) (fun W hW=>iw (hM.ae hW).cells x)
 entry:=fun {w p F A} x h=>by
  obtain ⟨B,F1,Z,gr,st,rfl,rfl,cr,ptr,G,L,T,hM,hI⟩:=h;refine gN 137 (fun _ _=>by kernel_rfl) hM.h0 (CG _ _) (fun W hW=>?_);cases hin:bV A x with
  | false=>simpa using jR (hM.ae hW).cells x hin
  | true=>
   obtain ⟨y,rfl⟩:=oZ hin;simpa using iY (hM.ae hW).cells y hin
theorem Iq (p:Nat) (w:World):Calls Tryz.prog 103 #[.pointer (some ⟨p,0,none⟩),.int .i64 0] w fun e w'=>e=.returned (.tuple #[.iface 194 (.pointer (some ⟨p,0,none⟩)),.int .i64 0])/\w'=w:=by
 go_enter Tryz.func103,Tryz.ntmps103
 go_wp2;go_ret2;exact ⟨rfl,rfl⟩
theorem QJ (n:Nat) (hn:n<=65536):lG xq 8 0 n:=by
 intro w;have kn:=fun W=>Lv n W hn;have km:=Iq;have hty:xq.ty=194:=rfl;have hat:∀w' B F Z gr,ShAt w' B F Z gr (NS.new n) 0->xq.at_ w' B.n0 (B.blk F Z gr) (NS.new n):=fun w' B F Z gr h=>⟨B,F,Z,gr,0,rfl,rfl,h⟩
 generalize xq=K at *;rw [hty]
 go_enter Tryz.func81,Tryz.ntmps81
 go_wp2_with (first
  | ((go_at_call 104;(with_reducible refine (kn _).mono ?_));rintro e w1 ⟨B,F,gr,rfl,hS,hu1,hf⟩)
  | ((go_at_call 103;(with_reducible refine (km _ _).mono ?_));rintro e w2 ⟨rfl,rfl⟩)
  | fail)
 go_ret2;exact ⟨B.n0,B.blk F [] gr,rfl,hat _ _ _ _ _ hS,aa.trans β hu1,fun x hx=>by have:=hf x hx;simp at this;omega⟩
theorem Be (kd d:Int) (n:Nat) (hc:xY kd d=0) (hn:n<=65536):∃K:dV,lG K kd d n:=by
 by_cases h8:kd=8
 ·subst h8;have hd:d=0:=(Hu hc).2.2.2 ω;subst hd;exact ⟨_,QJ n hn⟩
 ·exact GY kd d n hc h8 hn
end Go.Proofs.YtklibcncmbofpaaGreat
