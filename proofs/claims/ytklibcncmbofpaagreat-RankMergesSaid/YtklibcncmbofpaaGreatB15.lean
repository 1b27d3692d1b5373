/-
  Lemmas for RankMerges: SdQ. Conditions: those of each lemma.
-/
import Derived.Test.YtklibcncmbofpaaGreatB14
set_option linter.all false
set_option maxHeartbeats 8000000
set_option maxRecDepth 10000
namespace Go.Proofs.YtklibcncmbofpaaGreat
open Go Go.RowKit
theorem He (p c:Nat):∀W:World,W.cell? ⟨p,0,none⟩=some (.pointer (some ⟨c,0,none⟩))->(method 429 194 (.pointer (some ⟨p,0,none⟩)) "Has").run Tryz.prog W=.ok (139,.pointer (some ⟨c,0,none⟩)) W:=(by intro W h;unfold method;have hm:∃m,(Array.find? (fun x=>x.name == "Has") Tryz.t194.methods)=some m/\m.path.toList=[⟨237,0,true⟩]/\m.func=some (139,true)/\m.path.isEmpty=false:=⟨(Array.find? (fun x=>x.name == "Has") Tryz.t194.methods).get!,by kernel_rfl,by kernel_rfl,by kernel_rfl,by kernel_rfl⟩;obtain ⟨m,h1,h2,h3,h4⟩:=hm;go_simp;simp only [follow,Place.get];go_simp;(try unfold receiverAt);(try simp only [Place.get]);(try go_simp))
theorem Cv (p c:Nat):∀W:World,W.cell? ⟨p,0,none⟩=some (.pointer (some ⟨c,0,none⟩))->(method 429 194 (.pointer (some ⟨p,0,none⟩)) "Entry").run Tryz.prog W=.ok (137,.pointer (some ⟨c,0,none⟩)) W:=(by intro W h;unfold method;have hm:∃m,(Array.find? (fun x=>x.name == "Entry") Tryz.t194.methods)=some m/\m.path.toList=[⟨237,0,true⟩]/\m.func=some (137,true)/\m.path.isEmpty=false:=⟨(Array.find? (fun x=>x.name == "Entry") Tryz.t194.methods).get!,by kernel_rfl,by kernel_rfl,by kernel_rfl,by kernel_rfl⟩;obtain ⟨m,h1,h2,h3,h4⟩:=hm;go_simp;simp only [follow,Place.get];go_simp;(try unfold receiverAt);(try simp only [Place.get]);(try go_simp))
theorem R7 (p:Nat):∀W:World,(method 429 194 (.pointer (some ⟨p,0,none⟩)) "Make").run Tryz.prog W=.ok (274,.pointer (some ⟨p,0,none⟩)) W:=fun _=>by kernel_rfl
theorem Ma (p:Nat):∀W:World,(method 429 194 (.pointer (some ⟨p,0,none⟩)) "Insert").run Tryz.prog W=.ok (273,.pointer (some ⟨p,0,none⟩)) W:=fun _=>by kernel_rfl
theorem VC (p:Nat):∀W:World,(method 429 194 (.pointer (some ⟨p,0,none⟩)) "Min").run Tryz.prog W=.ok (276,.pointer (some ⟨p,0,none⟩)) W:=fun _=>by kernel_rfl
theorem Hd (p:Nat):∀W:World,(method 429 194 (.pointer (some ⟨p,0,none⟩)) "Extract").run Tryz.prog W=.ok (272,.pointer (some ⟨p,0,none⟩)) W:=fun _=>by kernel_rfl
def XC (w:World) (p:Nat) (F:List Nat) (A:NS):Prop:=∃B F1 Z gr st,p=B.n0/\F=B.blk F1 Z gr/\ShAt w B F1 Z gr A st
theorem XC.of {B:HB} {F1:List Nat} {gr:Nat} {A:NS} {F:List Nat} {w w':World} (h:Goes F w w' (fun F'=>∃Z' st',F'=B.blk F1 Z' gr/\ShAt w' B F1 Z' gr A st')):Goes F w w' (fun F'=>XC w' B.n0 F' A):=by
 obtain ⟨F',⟨Z',st',rfl,hA⟩,hu,hf⟩:=h;exact ⟨_,⟨B,F1,Z',gr,st',rfl,rfl,hA⟩,hu,hf⟩
def wR:dI where
 ty:=194
 at_:=XC
 upd:=fun h hu hS=>by
  obtain ⟨B,F1,Z,gr,st,rfl,rfl,hL⟩:=h;exact ⟨B,F1,Z,gr,st,rfl,rfl,hL.upd hu hS⟩
 lt:=fun h=>by
  obtain ⟨B,F1,Z,gr,st,rfl,rfl,cr,ptr,G,L,T,hM,hI⟩:=h;exact hM.lt
 ok:=fun h=>by
  obtain ⟨B,F1,Z,gr,st,rfl,rfl,cr,ptr,G,L,T,hM,hI⟩:=h;exact hM.cells.ok
 make:=fun {w p F A} h=>by
  obtain ⟨B,F1,Z,gr,st,rfl,rfl,hL⟩:=h;refine aV 274 (fun _ _=>by kernel_rfl) (R7 _) (fun W hW=>?_);have oD:=hL.ae hW
  by_cases hl:65536<A.hs.length
  ·have e1:bR A=0:=by unfold bR;rw [Δ hl]
   have e2:aD A=A:=by unfold aD;rw [Δ hl]
   rw [e1,e2];refine (J5 oD hl).mono ?_;rintro e w' ⟨rfl,F',⟨F2,rfl,hA⟩,hu,hf⟩;exact ⟨rfl,_,⟨B,F2,Z,gr,st,rfl,rfl,hA⟩,hu,hf⟩
  ·have e1:bR A=A.hs.length:=by unfold bR;rw [Γ hl]
   rw [e1];refine (Gy oD hl).mono ?_;rintro e w' ⟨rfl,F',⟨F2,Z2,gr2,rfl,hA⟩,hu,hf⟩;exact ⟨rfl,_,⟨B,F2,Z2,gr2,st,rfl,rfl,hA⟩,hu,hf⟩
 insert:=fun {w p F A} g y k s hk hB h=>by
  obtain ⟨B,F1,Z,gr,st,rfl,rfl,hL⟩:=h;refine aV 273 (fun _ _=>by kernel_rfl) (Ma _) (fun W hW=>?_);exact (Bi (hL.ae hW) g y k s hk hB).mono (fun e w' h=>⟨h.1,XC.of h.2⟩)
 min:=fun {w p F A} g hB h=>by
  obtain ⟨B,F1,Z,gr,st,rfl,rfl,hL⟩:=h;refine aV 276 (fun _ _=>by kernel_rfl) (VC _) (fun W hW=>?_);refine (Aq (hL.ae hW) g hB).mono ?_;rintro e w' ⟨rfl,rfl⟩;exact ⟨rfl,Goes.stay ⟨B,F1,Z,gr,st,rfl,rfl,hL.ae hW⟩ (aa.refl _ _)⟩
 extract:=fun {w p F A} g m hm h=>by
  obtain ⟨B,F1,Z,gr,st,rfl,rfl,hL⟩:=h;refine aV 272 (fun _ _=>by kernel_rfl) (Hd _) (fun W hW=>?_);exact (y8 (hL.ae hW) g m hm).mono (fun e w' h=>⟨h.1,XC.of h.2⟩)
 has:=fun x h=>by
  obtain ⟨B,F1,Z,gr,st,rfl,rfl,cr,ptr,G,L,T,hM,hI⟩:=h;exact gJ 139 (fun _ _=>by kernel_rfl) hM.h0 (He _ _) (fun W hW=>iE (hM.ae hW).cells x)
 entry:=fun {w p F A} x h=>by
  obtain ⟨B,F1,Z,gr,st,rfl,rfl,cr,ptr,G,L,T,hM,hI⟩:=h;refine gJ 137 (fun _ _=>by kernel_rfl) hM.h0 (Cv _ _) (fun W hW=>?_);cases hin:bP A x with
  | false=>simpa using jK (hM.ae hW).cells x hin
  | true=>
   obtain ⟨y,rfl⟩:=oF hin;simpa using iV (hM.ae hW).cells y hin
theorem Ii (p:Nat) (w:World):Calls Tryz.prog 103 #[.pointer (some ⟨p,0,none⟩),.int .i64 0] w fun e w'=>e=.returned (.tuple #[.iface 194 (.pointer (some ⟨p,0,none⟩)),.int .i64 0])/\w'=w:=by
 go_enter Tryz.func103,Tryz.ntmps103
 go_wp2;go_ret2;exact ⟨rfl,rfl⟩
theorem NT (n:Nat) (hn:n<=65536):j4 wR 8 0 n:=by
 intro w;have kn:=fun W=>LJ n W hn;have km:=Ii;have hty:wR.ty=194:=rfl;have hat:∀w' B F Z gr,ShAt w' B F Z gr (NS.new n) 0->wR.at_ w' B.n0 (B.blk F Z gr) (NS.new n):=fun w' B F Z gr h=>⟨B,F,Z,gr,0,rfl,rfl,h⟩
 generalize wR=K at *;rw [hty]
 go_enter Tryz.func81,Tryz.ntmps81
 go_wp2_with (first
  | ((go_at_call 104;(with_reducible refine (kn _).mono ?_));rintro e w1 ⟨B,F,gr,rfl,hS,hu1,hf⟩)
  | ((go_at_call 103;(with_reducible refine (km _ _).mono ?_));rintro e w2 ⟨rfl,rfl⟩)
  | fail)
 go_ret2;exact ⟨B.n0,B.blk F [] gr,rfl,hat _ _ _ _ _ hS,aa.trans β hu1,fun x hx=>by have:=hf x hx;simp at this;omega⟩
theorem K6 (kd d:Int) (n:Nat) (hc:rV kd d=0) (hn:n<=65536):∃K:dI,j4 K kd d n:=by
 by_cases h8:kd=8
 ·subst h8;have hd:d=0:=(Ha hc).2.2.2 ω;subst hd;exact ⟨_,NT n hn⟩
 ·exact Gs kd d n hc h8 hn
end Go.Proofs.YtklibcncmbofpaaGreat
