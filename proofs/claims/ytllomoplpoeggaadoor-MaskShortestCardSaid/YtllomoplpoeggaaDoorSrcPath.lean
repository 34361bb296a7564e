/- The source of numbers of package kauditmake: Text, Name, Path. -/
import Derived.Test.YtllomoplpoeggaaDoorSrc2
namespace Go.Proofs.YtllomoplpoeggaaDoor
open Go.RowKit
theorem SPost.more {w w' : World} {base g : Nat} {b b' : Int} {m m' : Nat} {e : Ending} (h : SPost w base g b m e w') (hb : b ≤ b') (hm : m ≤ m') : SPost w base g b' m' e w' := by
  obtain ⟨x, h1, h2, h3, h4⟩ := h
  exact ⟨x, h1, by omega, h3.more hb, h4⟩
end Go.Proofs.YtllomoplpoeggaaDoor
