/- The table of calls in plain words (written by gen_call.py). -/
import Derived.Test.YtollifnnpihfdaaDoorProg
import Derived.Test.YtollifnnpihfdaaDoorOwn
import Derived.Lib.Hide
import Derived.WalkSpells
import Derived.LoopTactic
import Derived.Outline
import Derived.WalkLawsBesides
namespace Go.Proofs.YtollifnnpihfdaaDoor
open Go.RowKit
structure CRow where
  name : ByteArray
  nums : Nat
  pths : Nat
  least : Nat
  most : Nat
def rowsC : List CRow := [
  ⟨⟨#[102, 111, 114, 107]⟩, 0, 0, 0, 0⟩,
  ⟨⟨#[101, 120, 101, 99, 118, 101]⟩, 0, 1, 0, 4⟩,
  ⟨⟨#[101, 120, 105, 116]⟩, 1, 0, 0, 0⟩,
  ⟨⟨#[115, 101, 116, 117, 105, 100]⟩, 1, 0, 0, 0⟩,
  ⟨⟨#[115, 101, 116, 103, 105, 100]⟩, 1, 0, 0, 0⟩,
  ⟨⟨#[108, 111, 103, 105, 110]⟩, 1, 0, 0, 0⟩,
  ⟨⟨#[111, 112, 101, 110]⟩, 2, 1, 0, 0⟩,
  ⟨⟨#[99, 108, 111, 115, 101]⟩, 1, 0, 0, 0⟩,
  ⟨⟨#[108, 105, 110, 107]⟩, 0, 2, 0, 0⟩,
  ⟨⟨#[115, 121, 109, 108, 105, 110, 107]⟩, 0, 1, 1, 1⟩,
  ⟨⟨#[117, 110, 108, 105, 110, 107]⟩, 0, 1, 0, 0⟩,
  ⟨⟨#[109, 107, 100, 105, 114]⟩, 1, 1, 0, 0⟩,
  ⟨⟨#[114, 109, 100, 105, 114]⟩, 0, 1, 0, 0⟩,
  ⟨⟨#[114, 101, 110, 97, 109, 101]⟩, 0, 2, 0, 0⟩,
  ⟨⟨#[99, 104, 109, 111, 100]⟩, 1, 1, 0, 0⟩,
  ⟨⟨#[99, 104, 111, 119, 110]⟩, 2, 1, 0, 0⟩,
  ⟨⟨#[99, 104, 100, 105, 114]⟩, 0, 1, 0, 0⟩,
  ⟨⟨#[109, 111, 117, 110, 116]⟩, 1, 1, 0, 0⟩,
  ⟨⟨#[117, 109, 111, 117, 110, 116]⟩, 1, 0, 0, 0⟩,
  ⟨⟨#[99, 111, 110, 110, 101, 99, 116]⟩, 1, 0, 1, 1⟩,
  ⟨⟨#[107, 105, 108, 108]⟩, 2, 0, 0, 0⟩,
  ⟨⟨#[116, 114, 117, 110, 99, 97, 116, 101]⟩, 1, 1, 0, 0⟩]
/-- The cells of a row, with integers of the kind k. -/
def CRow.cells (k : IntKind) (r : CRow) : List Value := [.string r.name, .int k r.nums, .int k r.pths, .int k r.least, .int k r.most]
def CRow.val (k : IntKind) (r : CRow) : Value := .agg #[.string r.name, .int k r.nums, .int k r.pths, .int k r.least, .int k r.most]
def rowC (n : Nat) : CRow := rowsC.getD n ⟨⟨#[]⟩, 0, 0, 0, 0⟩
def rowI (z : Int) : CRow := if z < 0 then ⟨⟨#[]⟩, 0, 0, 0, 0⟩ else rowC z.toNat
def cellsC (k : IntKind) : Array Value := ((rowsC.map (CRow.cells k)).flatten).toArray
theorem cellsC_at (k : IntKind) (n : Nat) (h : n < 22) : (cellsC k)[n * 5]? = some (.string (rowC n).name) ∧ (cellsC k)[n * 5 + 1]? = some (.int k (rowC n).nums) ∧ (cellsC k)[n * 5 + 2]? = some (.int k (rowC n).pths) ∧ (cellsC k)[n * 5 + 3]? = some (.int k (rowC n).least) ∧ (cellsC k)[n * 5 + 4]? = some (.int k (rowC n).most) := by
  have H : ∀ m : Fin 22, (cellsC k)[m.val * 5]? = some (.string (rowC m).name) ∧ (cellsC k)[m.val * 5 + 1]? = some (.int k (rowC m).nums) ∧ (cellsC k)[m.val * 5 + 2]? = some (.int k (rowC m).pths) ∧ (cellsC k)[m.val * 5 + 3]? = some (.int k (rowC m).least) ∧ (cellsC k)[m.val * 5 + 4]? = some (.int k (rowC m).most) := by
    intro m
    match m with
    | ⟨0, _⟩ => exact ⟨rfl, rfl, rfl, rfl, rfl⟩
    | ⟨1, _⟩ => exact ⟨rfl, rfl, rfl, rfl, rfl⟩
    | ⟨2, _⟩ => exact ⟨rfl, rfl, rfl, rfl, rfl⟩
    | ⟨3, _⟩ => exact ⟨rfl, rfl, rfl, rfl, rfl⟩
    | ⟨4, _⟩ => exact ⟨rfl, rfl, rfl, rfl, rfl⟩
    | ⟨5, _⟩ => exact ⟨rfl, rfl, rfl, rfl, rfl⟩
    | ⟨6, _⟩ => exact ⟨rfl, rfl, rfl, rfl, rfl⟩
    | ⟨7, _⟩ => exact ⟨rfl, rfl, rfl, rfl, rfl⟩
    | ⟨8, _⟩ => exact ⟨rfl, rfl, rfl, rfl, rfl⟩
    | ⟨9, _⟩ => exact ⟨rfl, rfl, rfl, rfl, rfl⟩
    | ⟨10, _⟩ => exact ⟨rfl, rfl, rfl, rfl, rfl⟩
    | ⟨11, _⟩ => exact ⟨rfl, rfl, rfl, rfl, rfl⟩
    | ⟨12, _⟩ => exact ⟨rfl, rfl, rfl, rfl, rfl⟩
    | ⟨13, _⟩ => exact ⟨rfl, rfl, rfl, rfl, rfl⟩
    | ⟨14, _⟩ => exact ⟨rfl, rfl, rfl, rfl, rfl⟩
    | ⟨15, _⟩ => exact ⟨rfl, rfl, rfl, rfl, rfl⟩
    | ⟨16, _⟩ => exact ⟨rfl, rfl, rfl, rfl, rfl⟩
    | ⟨17, _⟩ => exact ⟨rfl, rfl, rfl, rfl, rfl⟩
    | ⟨18, _⟩ => exact ⟨rfl, rfl, rfl, rfl, rfl⟩
    | ⟨19, _⟩ => exact ⟨rfl, rfl, rfl, rfl, rfl⟩
    | ⟨20, _⟩ => exact ⟨rfl, rfl, rfl, rfl, rfl⟩
    | ⟨21, _⟩ => exact ⟨rfl, rfl, rfl, rfl, rfl⟩
    | ⟨m + 22, h⟩ => omega
  exact H ⟨n, h⟩
theorem rowC_small (n : Nat) : (rowC n).nums ≤ 2 ∧ (rowC n).pths ≤ 2 ∧ (rowC n).least ≤ 1 ∧ (rowC n).most ≤ 4 ∧ (rowC n).name.size ≤ 8 := by
  by_cases h : n < 22
  · have H : ∀ m : Fin 22, (rowC m).nums ≤ 2 ∧ (rowC m).pths ≤ 2 ∧ (rowC m).least ≤ 1 ∧ (rowC m).most ≤ 4 ∧ (rowC m).name.size ≤ 8 := by decide +kernel
    exact H ⟨n, h⟩
  · have : rowC n = ⟨⟨#[]⟩, 0, 0, 0, 0⟩ := by
      unfold rowC
      rw [List.getD_eq_getElem?_getD, List.getElem?_eq_none (by show 22 ≤ n; omega)]; rfl
    rw [this]; decide
theorem rowC_named (n : Nat) (h : n < 22) : 0 < (rowC n).name.size := by
  have H : ∀ m : Fin 22, 0 < (rowC m).name.size := by decide +kernel
  exact H ⟨n, h⟩
theorem rowC_out (n : Nat) (h : 22 ≤ n) : rowC n = ⟨⟨#[]⟩, 0, 0, 0, 0⟩ := by
  unfold rowC
  rw [List.getD_eq_getElem?_getD, List.getElem?_eq_none (by show 22 ≤ n; omega)]; rfl
/-- The program's table lies in its variable. -/
def Calls10 (w : World) : Prop := Glob w 0 (cellsC .u8)
end Go.Proofs.YtollifnnpihfdaaDoor
