import Derived.Test.YtollifnnpihfdaaGreatDoorB15
import Derived.Lib.AtoiAllCases
set_option maxRecDepth 100000
set_option maxHeartbeats 64000000
set_option linter.all false
namespace Go.Proofs.YtollifnnpihfdaaGreatDoor
open Go.RowKit
def cz (w:World) (B:Nat) (A:Option Addr) (L:List (Itm×bE)):Prop:=∀ k (hk:k < L.length),∃ ad:Addr,A=some ad∧ad.block < B∧∀ j,j < 13→w.cell? ((ad.add (k * 13)).add j)=(bf (L[k]'hk).1 (L[k]'hk).2)[j]?
theorem add_block (a:Addr) (n:Nat):(a.add n).block=a.block:=by unfold Addr.add;split <;> rfl
theorem cz.keep {w w' :World} {B B' :Nat} {A:Option Addr} {L:List (Itm×bE)} (h:cz w B A L) (hb:Below B' w w') (hB:B≤B'):cz w' B A L:=fun k hk=>by
 obtain ⟨ad,e,hl,hc⟩:=h k hk;exact ⟨ad,e,hl,fun j hj=>(hb.cell (by rw [add_block,add_block];omega)).trans (hc j hj)⟩
theorem cz.more {w:World} {B B' :Nat} {A:Option Addr} {L:List (Itm×bE)} (h:cz w B A L) (hB:B≤B'):cz w B' A L:=fun k hk=>by
 obtain ⟨ad,e,hl,hc⟩:=h k hk;exact ⟨ad,e,by omega,hc⟩
theorem cz.nil {w:World} {B:Nat} {A:Option Addr} :cz w B A []:=fun k hk=>by simp at hk
attribute [local irreducible] gT pJ wL iJ wQ
end Go.Proofs.YtollifnnpihfdaaGreatDoor
