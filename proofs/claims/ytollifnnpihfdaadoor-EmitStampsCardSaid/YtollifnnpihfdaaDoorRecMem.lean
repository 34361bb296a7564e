/- Pairs and records as values and in memory. -/
import Derived.Test.YtollifnnpihfdaaDoorElMem
import Derived.Test.YtollifnnpihfdaaDoorSrcPair
namespace Go.Proofs.YtollifnnpihfdaaDoor
open Go.RowKit
structure Pr where
  nm : ByteArray
  kd : Int
  nu : Int
  tx : ByteArray
structure Rc where
  ty : Int
  ti : Int
  se : Int
  ps : List Pr
abbrev prV (p : Pr) : Value := pairV p.nm p.kd p.nu p.tx
abbrev rcC (r : Rc) (v : Value) : Array Value := #[.int .i64 r.ty, .int .i64 r.ti, .int .i64 r.se, v]
abbrev rcV (r : Rc) (v : Value) : Value := .agg (rcC r v)
theorem Tryd.infoPr : (Tryd.prog.info? 39).map (fun i => (i.zero, i.size, i.bytes)) = some (some (.agg #[.string ⟨#[]⟩, .int .i64 0, .int .i64 0, .string ⟨#[]⟩]), 4, 48) := by kernel_rfl
theorem Tryd.infoRc : (Tryd.prog.info? 29).map (fun i => (i.zero, i.size, i.bytes)) = some (some (.agg #[.int .i64 0, .int .i64 0, .int .i64 0, .slice none 0 0]), 4, 48) := by kernel_rfl
/-- Pairs. -/
def EP : El Pr where
  C p := [.string p.nm, .int .i64 p.kd, .int .i64 p.nu, .string p.tx]
  e := 39
  sl := 27
  sz := 4
  bs := 48
  len _ := rfl
  one p u hu := by simp at hu; rcases hu with rfl | rfl | rfl | rfl <;> rfl
  pos := by omega
  small := by omega
  hu := Tryd.underlying27
  info := by
    obtain ⟨i0, h1, h2, h3, h4⟩ := info_parts Tryd.infoPr
    exact ⟨i0, _, h1, h2, h3, h4, rfl⟩
/-- A record with its slice of pairs. -/
structure Rm where
  r : Rc
  A : Option Addr
  c : Nat
abbrev Rm.sl (x : Rm) : Value := .slice x.A x.r.ps.length x.c
/-- Records, each with its slice of pairs. -/
def ER : El Rm where
  C x := [.int .i64 x.r.ty, .int .i64 x.r.ti, .int .i64 x.r.se, .slice x.A x.r.ps.length x.c]
  e := 29
  sl := 25
  sz := 4
  bs := 48
  len _ := rfl
  one x u hu := by simp at hu; rcases hu with rfl | rfl | rfl | rfl <;> rfl
  pos := by omega
  small := by omega
  hu := Tryd.underlying25
  info := by
    obtain ⟨i0, h1, h2, h3, h4⟩ := info_parts Tryd.infoRc
    exact ⟨i0, _, h1, h2, h3, h4, rfl⟩
theorem rc_sz (r : Rc) (v : Value) : (Tryd.prog.info? 29).map (·.size) = some (rcC r v).size := by show _ = some 4; kernel_rfl
def zeroRc : Rc := ⟨0, 0, 0, []⟩
abbrev RcB (w : World) (g : Nat) (r : Rc) (v : Value) : Prop := Blk w g 29 (rcC r v)
end Go.Proofs.YtollifnnpihfdaaDoor
