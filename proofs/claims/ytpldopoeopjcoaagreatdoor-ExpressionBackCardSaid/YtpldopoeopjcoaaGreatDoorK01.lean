/- Texts of one proof, laid together. -/
import Derived.WalkKit
import Derived.Laws.Strings
import Derived.OwnWalk
import Derived.Below
import Derived.Laws.AppendOwn
import Derived.Laws.IdiomStrings
import Derived.Lib.BufferRead
import Derived.Lib.SmallJoins
import Derived.Laws.Rows
import Derived.Lib.LaidTab
import Derived.Test.YtpldopoeopjcoaaGreatDoorProg
import Derived.Lib.Hide
import Derived.WalkSpells
import Derived.LoopTactic
import Derived.Outline
import Derived.RegionTactic
import Derived.IntWalk
import Derived.Deep.QuietTactic
import Derived.BigQuiet
import Derived.Laws.Tables
import Derived.Maps.AppendAt
import Derived.DataElems
import Derived.Deep.RegionLaw
import Derived.Deep.RegionWith
import Derived.Deep.DeepCutAuto
import Derived.Deep.CutBlock
/- Plain facts on lists of bytes, with no program in sight. -/
namespace Go.Proofs.YtpldopoeopjcoaaGreatDoor
theorem retB {a b : Bool} (h : a = b) : Ending.returned (.bool a) = .returned (.bool b) := by rw [h]
theorem retI {k : IntKind} {a b : Int} (h : a = b) : Ending.returned (.int k a) = .returned (.int k b) := by rw [h]
theorem retS {a b : ByteArray} (h : a = b) : Ending.returned (.string a) = .returned (.string b) := by rw [h]
/-- A byte that may stand between quotation marks. -/
def okc (c : UInt8) : Bool := decide (33 ≤ c.toNat) && decide (c.toNat ≤ 126) && decide (c.toNat ≠ 34)
def safeB (l : List UInt8) : Bool := l.all okc
theorem take_snoc (s : ByteArray) (k : Nat) (h : k < s.size) : s.data.toList.take (k + 1) = s.data.toList.take k ++ [s[k]] := by
  rw [List.take_succ_eq_append_getElem (by simpa using h)]; rfl
theorem take_all (s : ByteArray) (k : Nat) (h : s.size ≤ k) : s.data.toList.take k = s.data.toList :=
  List.take_of_length_le (by simpa using h)
theorem safe_snoc (l : List UInt8) (c : UInt8) : safeB (l ++ [c]) = (safeB l && okc c) := by simp [safeB, List.all_append]
theorem okc_true {c : UInt8} (h1 : 33 ≤ (c.toNat : Int)) (h2 : (c.toNat : Int) ≤ 126) (h3 : ((c.toNat : Int) == 34) = false) : okc c = true := by
  have : (c.toNat : Int) ≠ 34 := by simpa using h3
  unfold okc; simp; omega
theorem okc_true_inv {c : UInt8} (h : okc c = true) : 33 ≤ (c.toNat : Int) ∧ (c.toNat : Int) ≤ 126 ∧ ((c.toNat : Int) == 34) = false := by
  unfold okc at h; simp at h; refine ⟨by omega, by omega, by simp; omega⟩
theorem safe_step (s : ByteArray) (k : Nat) (h : k < s.size) (hp : safeB (s.data.toList.take k) = true) (hc : okc s[k] = true) : safeB (s.data.toList.take (k + 1)) = true := by
  rw [take_snoc s k h, safe_snoc, hp, hc]; rfl
theorem safe_stop (s : ByteArray) (k : Nat) (h : k < s.size) (hc : okc s[k] = false) : safeB s.data.toList = false := by
  rw [← Bool.not_eq_true]; intro hall
  have := (List.all_eq_true.1 hall) s[k] (Array.mem_toList_iff.2 (Array.getElem_mem (xs := s.data) h))
  rw [hc] at this; cases this
/-- The hexadecimal digit of a number below 16. -/
def hexd (n : Nat) : UInt8 := if n < 10 then UInt8.ofNat (48 + n) else UInt8.ofNat (87 + n)
def hex2 (c : UInt8) : List UInt8 := [hexd (c.toNat / 16), hexd (c.toNat % 16)]
def hexL (l : List UInt8) : List UInt8 := l.flatMap hex2
def quoteL (l : List UInt8) : List UInt8 := if safeB l then 34 :: (l ++ [34]) else 120 :: hexL l
def quoteS (s : ByteArray) : ByteArray := if 640 < s.size then ⟨#[]⟩ else ⟨(quoteL s.data.toList).toArray⟩
def quoteE (s : ByteArray) : Int := if 640 < s.size then 20 else 0
theorem hexL_snoc (l : List UInt8) (c : UInt8) : hexL (l ++ [c]) = hexL l ++ hex2 c := by simp [hexL]
theorem hexL_length (l : List UInt8) : (hexL l).length = 2 * l.length := by
  induction l with
  | nil => rfl
  | cons c l ih =>
    have e : hexL (c :: l) = hex2 c ++ hexL l := rfl
    rw [e, List.length_append, ih, List.length_cons]; simp only [hex2, List.length_cons, List.length_nil]; omega
theorem str_ne {a b : ByteArray} (h : a ≠ b) : (a.toList == b.toList) = false := by
  rw [ByteArray.toList_eq, ByteArray.toList_eq, beq_eq_false_iff_ne]
  exact fun e => h (ByteArray.ext (Array.toList_inj.1 e))
theorem str_eq {a b : ByteArray} (h : a = b) : (a.toList == b.toList) = true := by rw [h]; simp
abbrev bv (c : UInt8) : Value := .int .u8 (c.toNat : Int)
end Go.Proofs.YtpldopoeopjcoaaGreatDoor
/- Rows of bytes of the call's own, and the string that they make; parts of Below. -/
namespace Go.Proofs.YtpldopoeopjcoaaGreatDoor
open Go.RowKit
/-- string(b) of a row of bytes of the call's own. -/
theorem conv_own {P : Program} {w : World} {base : Nat} {src dst e : TypeId} {v : Value} {n : Nat} {l : List UInt8} (h : w.ownsRow base e 1 v n (l.map bv))
    (hs : P.underlying src = some (.slice e)) (he : P.underlying e = some (.int .u8)) (hd : P.underlying dst = some .string) :
    (convert src dst v).run P w = .ok (.string ⟨l.toArray⟩) w := by
  have hl : n = l.length := by have := h.1; simp at this; omega
  rcases Joins.ownsRow_forms h with ⟨rfl, h0⟩ | ⟨g, cap, rfl⟩
  · have : l = [] := List.eq_nil_of_length_eq_zero (by omega)
    subst this
    exact Lib.run_convert_nil_bytes w src dst e 0 hs he hd
  · subst hl
    exact run_convert_bytes_back w src dst e _ cap l hs he hd fun j hj => h.cells (g := g) rfl j _ (by simp [List.getElem?_eq_getElem hj])
theorem below_grown_own {B base size n : Nat} {e : TypeId} {v : Value} {xs : List Value} {a w w1 w2 : World} (h : Below B a w1) (hown : w.ownsRow base e size v n xs) (hb : B ≤ base) (hg : w1.grownBy w2 v.ownBlock) (hB : B ≤ w1.heap.size) : Below B a w2 :=
  h.grown hg hB fun k hk => Nat.le_trans hb (hown.lt k hk).1
theorem below_drewN {B : Nat} {a w : World} (h : Below B a w) (n : Nat) : Below B a (w.drewN n) := ⟨h.os, h.tape, h.output, h.size, h.block⟩
theorem bcell {W w1 : World} (hb : Below W.heap.size W w1) : (∀ b o, b < W.heap.size → w1.cell? ⟨b, o, none⟩ = W.cell? ⟨b, o, none⟩) ∧ (∀ b o, b < W.heap.size → w1.frozen? ⟨b, o, none⟩ = W.frozen? ⟨b, o, none⟩) :=
  ⟨fun b o h => hb.cell (p := ⟨b, o, none⟩) h, fun b o h => hb.frozen (p := ⟨b, o, none⟩) h⟩
/-- One call after the other, each of which leaves what was there. -/
theorem below_then {a b c : World} (h : Below a.heap.size a b) (k : Below b.heap.size b c) : Below a.heap.size a c := h.trans (k.mono h.size)
/-- The variable g lies whole in its block. -/
def Glob (w : World) (g : Nat) (cs : Array Value) : Prop := ∃ tt fr, w.heap[g]? = some (.cells cs tt fr)
theorem Glob.lt {w : World} {g : Nat} {cs : Array Value} (h : Glob w g cs) : g < w.heap.size := by
  obtain ⟨tt, fr, h⟩ := h
  rcases Nat.lt_or_ge g w.heap.size with hlt | hge
  · exact hlt
  · rw [Array.getElem?_eq_none hge] at h; cases h
theorem Glob.cell {w : World} {g : Nat} {cs : Array Value} (h : Glob w g cs) (i : Nat) : w.cell? ⟨g, i, none⟩ = cs[i]? := by
  obtain ⟨tt, fr, h⟩ := h
  exact cell_of_row w g i cs tt fr h
theorem Glob.below {B : Nat} {w w' : World} {g : Nat} {cs : Array Value} (h : Glob w g cs) (hb : Below B w w') (hB : w.heap.size ≤ B) : Glob w' g cs := by
  have hlt := h.lt
  obtain ⟨tt, fr, h⟩ := h
  exact ⟨tt, fr, (hb.block g (by omega)).trans h⟩
theorem glob_of_tab {P : Program} {W : World} {name : String} {k : IntKind} {zs : List Int} {g : Nat} {cs : Array Value} (h : Lib.TabIs P W name k zs) (hg : P.globalNamed name = some g) (hc : cs = (zs.map (Value.int k)).toArray) : Glob W g cs := by
  subst hc
  unfold Lib.TabIs World.var? at h
  rw [hg] at h
  simp only [Option.bind_some] at h
  split at h
  · rename_i cs tt fr he
    injection h with h
    exact ⟨tt, fr, by rw [he, h]⟩
  · cases h
end Go.Proofs.YtpldopoeopjcoaaGreatDoor
/- The source of numbers of package kauditmake: New and N. What is said of N: a number from 0 to n - 1, and the source stays one. -/
namespace Go.Proofs.YtpldopoeopjcoaaGreatDoor
open Go.RowKit
theorem block_add (a : Addr) (n : Nat) : (a.add n).block = a.block := by unfold Addr.add; split <;> rfl
/-- Only block g, and what is new, has changed: the steps. -/
theorem only_drewN {a w : World} {row : Option Nat} (h : a.grownBy w row) (n : Nat) : a.grownBy (w.drewN n) row := ⟨h.os, h.tape, h.output, h.size, h.block⟩
theorem only_alloc {a w : World} {row : Option Nat} (h : a.grownBy w row) (o : Obj) : a.grownBy (w.alloc o) row :=
  ⟨h.os, h.tape, h.output, Nat.le_trans h.size (by simp), fun i hi hne => (Below.heap_alloc w o i (Nat.lt_of_lt_of_le hi h.size)).trans (h.block i hi hne)⟩
theorem only_setCell {a w : World} {g : Nat} (h : a.grownBy w (some g)) {p : Addr} (hp : p.block = g ∨ a.heap.size ≤ p.block) (u : Value) : a.grownBy (w.setCell p u) (some g) :=
  ⟨h.os, h.tape, h.output, by simpa [World.setCell] using h.size, fun i hi hne => (Below.heap_setCell w p u i (fun e => by
    rcases hp with hp | hp
    · exact hne (by rw [e, hp])
    · omega)).trans (h.block i hi hne)⟩
theorem only_below {a w w' : World} {row : Option Nat} (h : a.grownBy w row) (hb : Below w.heap.size w w') : a.grownBy w' row :=
  ⟨hb.os.trans h.os, hb.tape.trans h.tape, hb.output.trans h.output, Nat.le_trans h.size hb.size, fun i hi hne => (hb.block i (Nat.lt_of_lt_of_le hi h.size)).trans (h.block i hi hne)⟩
theorem below_only {B : Nat} {a w w' : World} {g : Nat} (h : Below B a w) (hg : w.grownBy w' (some g)) (hB : B ≤ w.heap.size) (hBg : B ≤ g) : Below B a w' :=
  h.grown hg hB fun k hk => by injection hk with hk; omega
theorem tmod_bd (z n : Int) (hn : 1 ≤ n) : -n < z.tmod n ∧ z.tmod n < n := by
  have h1 := Int.tmod_lt_of_pos z (show 0 < n by omega)
  have h2 : -n < z.tmod n := by
    have := Int.tmod_lt_of_pos (-z) (show 0 < n by omega)
    rw [Int.neg_tmod] at this; omega
  exact ⟨h2, h1⟩
end Go.Proofs.YtpldopoeopjcoaaGreatDoor
/- The source of numbers of package kauditmake: Range, Pick, Word. -/
namespace Go.Proofs.YtpldopoeopjcoaaGreatDoor
open Go.RowKit
/-- A row of strings of at most m bytes; a row of numbers from lo to hi. -/
def strsLe (cs : Array Value) (m : Nat) : Bool := cs.toList.all fun | .string x => decide (x.size ≤ m) | _ => false
def intsIn (cs : Array Value) (lo hi : Int) : Bool := cs.toList.all fun | .int .i64 x => decide (lo ≤ x) && decide (x ≤ hi) | _ => false
theorem strsLe_at {cs : Array Value} {m : Nat} (h : strsLe cs m = true) (k : Nat) (hk : k < cs.size) : ∃ x : ByteArray, cs[k]? = some (.string x) ∧ x.size ≤ m := by
  have hm : cs[k] ∈ cs.toList := Array.mem_toList_iff.2 (Array.getElem_mem hk)
  have := List.all_eq_true.1 h _ hm
  split at this
  · rename_i x e
    exact ⟨x, by rw [Array.getElem?_eq_getElem hk, e], by simpa using this⟩
  · cases this
theorem intsIn_at {cs : Array Value} {lo hi : Int} (h : intsIn cs lo hi = true) (k : Nat) (hk : k < cs.size) : ∃ x : Int, cs[k]? = some (.int .i64 x) ∧ lo ≤ x ∧ x ≤ hi := by
  have hm : cs[k] ∈ cs.toList := Array.mem_toList_iff.2 (Array.getElem_mem hk)
  have := List.all_eq_true.1 h _ hm
  split at this
  · rename_i x e
    simp at this
    exact ⟨x, by rw [Array.getElem?_eq_getElem hk, e], this.1, this.2⟩
  · cases this
theorem only_cell {w w' : World} {g B : Nat} {cs : Array Value} {t : TypeId} {fr : Nat × Nat} (hg : w.grownBy w' (some g)) (hB : w.heap[B]? = some (.cells cs t fr)) (hne : B ≠ g) (k : Nat) : w'.cell? ⟨B, k, none⟩ = cs[k]? :=
  cell_of_row w' B k cs t fr ((hg.block B (Array.getElem?_eq_some_iff.1 hB).1 (fun e => hne (by injection e))).trans hB)
end Go.Proofs.YtpldopoeopjcoaaGreatDoor
/- Blocks that are known whole. -/
namespace Go.Proofs.YtpldopoeopjcoaaGreatDoor
open Go.RowKit
/-- Block g holds the cells cs, none of them frozen. -/
def Blk (w : World) (g : Nat) (t : TypeId) (cs : Array Value) : Prop := w.heap[g]? = some (.cells cs t (0, 0))
theorem Blk.lt {w : World} {g : Nat} {t : TypeId} {cs : Array Value} (h : Blk w g t cs) : g < w.heap.size := (Array.getElem?_eq_some_iff.1 h).1
theorem Blk.new (w : World) (cs : Array Value) (t : TypeId) : Blk (w.alloc (.cells cs t)) w.heap.size t cs := heap_alloc_new w _
theorem Blk.cell {w : World} {g : Nat} {t : TypeId} {cs : Array Value} (h : Blk w g t cs) (i : Nat) : w.cell? ⟨g, i, none⟩ = cs[i]? := cell_of_row w g i cs t (0, 0) h
theorem Blk.free {w : World} {g : Nat} {t : TypeId} {cs : Array Value} (h : Blk w g t cs) (i : Nat) : w.frozen? ⟨g, i, none⟩ = false := frozen_of_row w g i cs t h
theorem Blk.keep {w w' : World} {g : Nat} {t : TypeId} {cs : Array Value} (h : Blk w g t cs) {B : Nat} (hb : Below B w w') (hB : g < B) : Blk w' g t cs := (hb.block g hB).trans h
theorem Blk.below {w w' : World} {g : Nat} {t : TypeId} {cs : Array Value} (h : Blk w g t cs) (hb : Below w.heap.size w w') : Blk w' g t cs := h.keep hb h.lt
theorem Blk.alloc {w : World} {g : Nat} {t : TypeId} {cs : Array Value} (h : Blk w g t cs) (o : Obj) : Blk (w.alloc o) g t cs := h.below ((Below.refl _ _).alloc (Nat.le_refl _) _)
theorem Blk.drewN {w : World} {g : Nat} {t : TypeId} {cs : Array Value} (h : Blk w g t cs) (n : Nat) : Blk (w.drewN n) g t cs := h
theorem Blk.grown {w w' : World} {g : Nat} {t : TypeId} {cs : Array Value} (h : Blk w g t cs) {row : Option Nat} (hg : w.grownBy w' row) (hne : row ≠ some g) : Blk w' g t cs := (hg.block g h.lt (fun e => hne e.symm)).trans h
theorem Blk.row {w : World} {g : Nat} {t : TypeId} {cs : Array Value} (h : Blk w g t cs) (ds : Array Value) : Blk (w.setRow g ds) g t ds := setRow_heap w g cs ds t _ h
theorem Blk.row_other {w : World} {g k : Nat} {t : TypeId} {cs : Array Value} (h : Blk w g t cs) (ds : Array Value) (hne : g ≠ k) : Blk (w.setRow k ds) g t cs := (setRow_other w k g ds hne).trans h
theorem Blk.put {w : World} {g : Nat} {t : TypeId} {cs : Array Value} (h : Blk w g t cs) (i : Nat) (v : Value) : Blk (w.setCell ⟨g, i, none⟩ v) g t (cs.setIfInBounds i v) := heap_setCell_same w g i cs t v h
theorem Blk.put_other {w : World} {g : Nat} {t : TypeId} {cs : Array Value} (h : Blk w g t cs) {p : Addr} (v : Value) (hne : g ≠ p.block) : Blk (w.setCell p v) g t cs := (heap_setCell_other w p g v hne).trans h
theorem below_row {B g : Nat} {a w : World} (h : Below B a w) (hg : B ≤ g) (cs : Array Value) : Below B a (w.setRow g cs) :=
  ⟨h.os, h.tape, h.output, by rw [setRow_size]; exact h.size, fun i hi => (setRow_other w g i cs (by omega)).trans (h.block i hi)⟩
/-- A box: Below the new block. -/
theorem boxed {w w1 : World} {o : Obj} (hb : Below (w.alloc o).heap.size (w.alloc o) w1) : Below (w.heap.size + 1) (w.alloc o) w1 := by simpa using hb
theorem unbox {w w1 : World} {o : Obj} (hb : Below (w.heap.size + 1) (w.alloc o) w1) : Below w.heap.size w w1 := ((Below.refl _ _).alloc (Nat.le_refl _) _).trans (hb.mono (by omega))
theorem unbox' {w w1 : World} {o : Obj} (hb : Below (w.alloc o).heap.size (w.alloc o) w1) : Below w.heap.size w w1 := unbox (boxed hb)
theorem store_blk {P : Program} {ops : Array Oper} {rest : List Oper} {o : Oper} {a : Act} {w : World} {Q : Exit → Act → World → Prop} (hgd : o.guard = none) (ty : TypeId) (x y : Operand) (ho : o.op = .store ty x y)
    {g : Nat} {t : TypeId} {old : Array Value} (hg : Blk w g t old) (cells : Array Value) (hx : a.eval x = .pointer (some ⟨g, 0, none⟩)) (hy : a.eval y = .agg cells)
    (hi : (P.info? ty).map (·.size) = some cells.size) (hold : old.size = cells.size) (h1 : cells.all (·.oneCell') = true)
    (h : wpList P ops Q rest (a.put o.dst undef) (w.setRow g cells)) : wpList P ops Q (o :: rest) a w :=
  wpList_store_row hgd ty x y ho g cells hx hy t old hg hi hold h1 h
theorem load_blk {P : Program} {ops : Array Oper} {rest : List Oper} {o : Oper} {a : Act} {w : World} {Q : Exit → Act → World → Prop} (hgd : o.guard = none) (ty : TypeId) (x : Operand) (ho : o.op = .load ty x)
    {g : Nat} {t : TypeId} {cs : Array Value} (hg : Blk w g t cs) (hx : a.eval x = .pointer (some ⟨g, 0, none⟩)) (d : TypeDesc)
    (hu : P.underlying ty = some d) (hd : (match d with | .struct _ | .array _ _ => true | _ => false) = true) (hi : (P.info? ty).map (·.size) = some cs.size)
    (h : wpList P ops Q rest (a.put o.dst (.agg cs)) w) : wpList P ops Q (o :: rest) a w :=
  wpList_load_row hgd ty x ho g hx t cs (0, 0) d hg hu hd hi h
end Go.Proofs.YtpldopoeopjcoaaGreatDoor
/- The source of numbers of package kauditmill: New, Int, Bool, Pick, word, Text. What is said of Int: a number from 0 to n - 1, and the source stays one. -/
namespace Go.Proofs.YtpldopoeopjcoaaGreatDoor
open Go.RowKit
/-- Block g holds a source whose list lies below base. -/
def CaOk (w : World) (base g : Nat) : Prop := base ≤ g ∧ ∃ (A : Option Addr) (n c : Nat) (a : Int), w.heap[g]? = some (.cells #[.slice A n c, .int .i64 a] 49 (0, 0)) ∧ 0 ≤ a ∧ a ≤ n ∧ n ≤ 1000000 ∧
  ∀ k, k < n → ∃ (ad : Addr) (z : Int), A = some ad ∧ ad.block < base ∧ w.cell? (ad.add k) = some (.int .u8 z) ∧ 0 ≤ z ∧ z ≤ 255
theorem ca_lt {w : World} {base g : Nat} (h : CaOk w base g) : g < w.heap.size := by
  obtain ⟨_, A, n, c, a, hg, _⟩ := h
  exact (Array.getElem?_eq_some_iff.1 hg).1
theorem CaOk.keep {w w' : World} {base g : Nat} (h : CaOk w base g) (hg' : w'.heap[g]? = w.heap[g]?) (hk : ∀ i, i < base → w'.heap[i]? = w.heap[i]?) : CaOk w' base g := by
  obtain ⟨h0, A, n, c, a, hg, ha, hab, hn, hl⟩ := h
  refine ⟨h0, A, n, c, a, hg'.trans hg, ha, hab, hn, fun k hk' => ?_⟩
  obtain ⟨ad, z, e, hb, hc, hz⟩ := hl k hk'
  exact ⟨ad, z, e, hb, (World.cell?_of_block (by rw [block_add]; exact hk _ hb)).trans hc, hz⟩
theorem CaOk.below {w w' : World} {base g : Nat} (h : CaOk w base g) (hb : Below w.heap.size w w') : CaOk w' base g :=
  h.keep (hb.block g (ca_lt h)) fun i hi => hb.block i (by have := ca_lt h; have := h.1; omega)
theorem CaOk.grown {w w' : World} {base g : Nat} (h : CaOk w base g) {row : Option Nat} (hg : w.grownBy w' row) (hr : ∀ r, row = some r → base ≤ r ∧ r ≠ g) : CaOk w' base g :=
  h.keep (hg.block g (ca_lt h) (fun e => (hr g e.symm).2 rfl)) fun i hi => hg.block i (by have := ca_lt h; have := h.1; omega) (fun e => by have := (hr i e.symm).1; omega)
theorem CaOk.alloc {w : World} {base g : Nat} (h : CaOk w base g) (o : Obj) : CaOk (w.alloc o) base g := h.below ((Below.refl _ _).alloc (Nat.le_refl _) o)
theorem CaOk.drew {w : World} {base g : Nat} (h : CaOk w base g) : CaOk w.drew base g := h
theorem CaOk.setCell {w : World} {base g : Nat} (h : CaOk w base g) {p : Addr} (hp : base ≤ p.block) (hne : p.block ≠ g) (u : Value) : CaOk (w.setCell p u) base g :=
  h.keep (Below.heap_setCell w p u g (Ne.symm hne)) fun i hi => Below.heap_setCell w p u i (by omega)
theorem ca_set {w : World} {base g : Nat} (h0 : base ≤ g) {A : Option Addr} {n c : Nat} {a : Int} (hg : w.heap[g]? = some (.cells #[.slice A n c, .int .i64 a] 49 (0, 0))) (ha : 0 ≤ a) (hab : a < n) (hn : n ≤ 1000000)
    (hl : ∀ k, k < n → ∃ (ad : Addr) (z : Int), A = some ad ∧ ad.block < base ∧ w.cell? (ad.add k) = some (.int .u8 z) ∧ 0 ≤ z ∧ z ≤ 255) :
    CaOk (w.setCell ⟨g, 1, none⟩ (.int .i64 (a + 1))) base g ∧ w.grownBy (w.setCell ⟨g, 1, none⟩ (.int .i64 (a + 1))) (some g) := by
  refine ⟨⟨h0, A, n, c, a + 1, heap_setCell_same w g 1 #[.slice A n c, .int .i64 a] _ (.int .i64 (a + 1)) hg, by omega, by omega, hn, fun k hk => ?_⟩, only_setCell (World.grownBy.refl w _) (.inl rfl) _⟩
  obtain ⟨ad, z, e, hb, hc, hz⟩ := hl k hk
  exact ⟨ad, z, e, hb, (World.cell?_of_block (by rw [block_add]; exact Below.heap_setCell w ⟨g, 1, none⟩ _ _ (by show ad.block ≠ g; omega))).trans hc, hz⟩
def CNPost (w : World) (base g : Nat) (n : Int) (e : Ending) (w' : World) : Prop := ∃ x : Int, e = .returned (.int .i64 x) ∧ 0 ≤ x ∧ x < n ∧ CaOk w' base g ∧ w.grownBy w' (some g)
set_option maxHeartbeats 1000000 in
theorem ca_int (w : World) (base g : Nat) (n : Int) (h : CaOk w base g) (hn1 : 1 ≤ n) (hn2 : n ≤ 1000000) :
    Calls Tryz.prog 14 #[.pointer (some ⟨g, 0, none⟩), .int .i64 n] w (CNPost w base g n) := by
  have H0 := Lib.hid h
  by_cases hn : n < 2
  · have HN1 := Lib.hid hn1
    clear h hn1 hn2
    go_enter Tryz.func14, Tryz.ntmps14
    go_wp2_with fail
    go_quiet (fail)
    go_wp2_with fail
    go_ret
    exact ⟨_, rfl, by omega, by have := HN1.out; omega, H0.out.drew, only_drewN (World.grownBy.refl w _) _⟩
  obtain ⟨h0, A, ln, c, a, hg, ha, hab, hln, hl⟩ := h
  have q0 : w.cell? ⟨g, 0, none⟩ = some (.slice A ln c) := cell_of_row w g 0 _ _ (0, 0) hg
  have q1 : w.cell? ⟨g, 1, none⟩ = some (.int .i64 a) := cell_of_row w g 1 _ _ (0, 0) hg
  by_cases hlt : a < (ln : Int)
  · have HSET := Lib.hid (ca_set h0 hg ha hlt hln hl)
    have qf : w.frozen? ⟨g, 1, none⟩ = false := frozen_of_row w g 1 _ _ hg
    have HG := Lib.hid (show (w.setCell ⟨g, 1, none⟩ (.int .i64 (a + 1))).heap[g]? = some (.cells #[.slice A ln c, .int .i64 (a + 1)] 49 (0, 0)) from heap_setCell_same w g 1 #[.slice A ln c, .int .i64 a] _ (.int .i64 (a + 1)) hg)
    obtain ⟨ad, z, hA, hadb, hc, hz0, hz1⟩ := hl a.toNat (by omega)
    subst hA
    have HC := Lib.hid (show (w.setCell ⟨g, 1, none⟩ (.int .i64 (a + 1))).cell? (ad.add a.toNat) = some (.int .u8 z) from
      (World.cell?_of_block (by rw [block_add]; exact Below.heap_setCell w ⟨g, 1, none⟩ _ _ (by show ad.block ≠ g; omega))).trans hc)
    have d0 : ¬ (ln : Int) ≤ a := by omega
    have tb := Lib.hid (tmod_bd z n hn1)
    have tz := Lib.hid (Int.tmod_nonneg n hz0)
    have hkb : a + 1 ≤ 1000001 := by omega
    have HM := Lib.hid (fun (m : Nat) => show CaOk ((w.drewN m).setCell ⟨g, 1, none⟩ (.int .i64 (a + 1))) base g ∧ w.grownBy ((w.drewN m).setCell ⟨g, 1, none⟩ (.int .i64 (a + 1))) (some g) ∧ ((w.drewN m).setCell ⟨g, 1, none⟩ (.int .i64 (a + 1))).heap[g]? = some (.cells #[.slice (some ad) ln c, .int .i64 (a + 1)] 49 (0, 0)) ∧ ((w.drewN m).setCell ⟨g, 1, none⟩ (.int .i64 (a + 1))).cell? (ad.add a.toNat) = some (.int .u8 z) from
      ⟨HSET.out.1, ⟨HSET.out.2.os, HSET.out.2.tape, HSET.out.2.output, HSET.out.2.size, HSET.out.2.block⟩, HG.out, HC.out⟩)
    clear hc hl hg H0 hab HSET HG HC
    go_enter Tryz.func14, Tryz.ntmps14
    go_wp2_with fail
    go_quiet (fail)
    go_wp2_with fail
    clear q0 q1 qf
    obtain ⟨m1, m2, m3, s2⟩ := HM.out nq
    generalize (w.drewN nq).setCell ⟨g, 1, none⟩ (.int .i64 (a + 1)) = w1 at *
    have M1 := Lib.hid m1
    have s0 : w1.cell? ⟨g, 0, none⟩ = some (.slice (some ad) ln c) := cell_of_row w1 g 0 _ _ (0, 0) m3
    have s1 : w1.cell? ⟨g, 1, none⟩ = some (.int .i64 (a + 1)) := cell_of_row w1 g 1 _ _ (0, 0) m3
    clear m1 m3
    have w1' : IntKind.i64.wrap (a + 1 - 1) = a := by rw [show a + 1 - 1 = a by omega]; exact IntWalk.i64_in _ (by omega)
    have t0 := tz.out
    obtain ⟨t1, t2⟩ := tb.out
    have w2' : IntKind.i64.wrap z = z := IntWalk.i64_in _ (by omega)
    have w3' : IntKind.i64.wrap (z.tmod n) = z.tmod n := IntWalk.i64_in _ (by omega)
    have n0 : n ≠ 0 := by omega
    go_quiet (fail)
    go_wp2_with fail
    go_ret
    exact ⟨_, rfl, Int.emod_nonneg _ (by omega), Int.emod_lt_of_pos _ (by omega), M1.out.drew, only_drewN m2 _⟩
  · have d0 : (ln : Int) ≤ a := by omega
    clear hl hg hlt
    go_enter Tryz.func14, Tryz.ntmps14
    go_wp2_with fail
    go_quiet (fail)
    go_wp2_with fail
    go_ret
    exact ⟨_, rfl, by omega, by omega, H0.out.drew, only_drewN (World.grownBy.refl w _) _⟩
def CBPost (w : World) (base g : Nat) (e : Ending) (w' : World) : Prop := ∃ x : Bool, e = .returned (.bool x) ∧ CaOk w' base g ∧ w.grownBy w' (some g)
def CPPost (w : World) (base g : Nat) (zs : List Int) (e : Ending) (w' : World) : Prop := ∃ x : Int, e = .returned (.int .i64 x) ∧ x ∈ zs ∧ CaOk w' base g ∧ w.grownBy w' (some g)
def CWPost (w : World) (base g : Nat) (L : List ByteArray) (e : Ending) (w' : World) : Prop := ∃ x : ByteArray, e = .returned (.string x) ∧ x ∈ L ∧ CaOk w' base g ∧ w.grownBy w' (some g)
theorem ca_bool (w : World) (base g : Nat) (n : Int) (h : CaOk w base g) (hn1 : 1 ≤ n) (hn2 : n ≤ 1000000) :
    Calls Tryz.prog 20 #[.pointer (some ⟨g, 0, none⟩), .int .i64 n] w (CBPost w base g) := by
  have H := Lib.hid h
  clear h
  have w1' : IntKind.i64.wrap (n - 1) = n - 1 := IntWalk.i64_in _ (by omega)
  go_enter Tryz.func20, Tryz.ntmps20
  go_wp2_with fail
  refine (ca_int _ base g n H.out hn1 hn2).mono ?_
  rintro e w1 ⟨x, rfl, hx0, hx1, hs, hg⟩
  have HS := Lib.hid hs
  clear hs
  go_wp2_with fail
  go_ret
  exact ⟨_, rfl, HS.out, hg⟩
theorem ca_word (w : World) (base g B n : Nat) (L : List ByteArray) (t : TypeId) (h : CaOk w base g) (hB : Blk w B t (L.map Value.string).toArray) (hne : B ≠ g) (hn : n = L.length) (h1 : 1 ≤ n) (h2 : n ≤ 1000) :
    Calls Tryz.prog 21 #[.pointer (some ⟨g, 0, none⟩), .slice (some ⟨B, 0, none⟩) n n] w (CWPost w base g L) := by
  have H := Lib.hid h
  have HBB := Lib.hid hB
  have HN := Lib.hid hn
  clear h hB hn
  go_enter Tryz.func21, Tryz.ntmps21
  go_wp2_with fail
  refine (ca_int _ base g n H.out (by omega) (by omega)).mono ?_
  rintro e w1 ⟨x, rfl, hx0, hx1, hs, hg⟩
  have HS := Lib.hid hs
  clear hs
  obtain ⟨k, rfl⟩ := Int.eq_ofNat_of_zero_le hx0
  have hk : k < L.length := by have := HN.out; omega
  have hc : w1.cell? ⟨B, k, none⟩ = some (.string L[k]) := by rw [(HBB.out.grown hg (fun e => hne (by injection e with e; exact e.symm))).cell k]; simp [hk]
  have hm := List.getElem_mem hk
  generalize L[k] = y at *
  go_wp2_with fail
  go_ret
  exact ⟨_, rfl, hm, HS.out, hg⟩
theorem ca_pick (w : World) (base g B n : Nat) (L : List Int) (t : TypeId) (h : CaOk w base g) (hB : Blk w B t (L.map (Value.int .i64)).toArray) (hne : B ≠ g) (hn : n = L.length) (h1 : 1 ≤ n) (h2 : n ≤ 1000) :
    Calls Tryz.prog 19 #[.pointer (some ⟨g, 0, none⟩), .slice (some ⟨B, 0, none⟩) n n] w (CPPost w base g L) := by
  have H := Lib.hid h
  have HBB := Lib.hid hB
  have HN := Lib.hid hn
  clear h hB hn
  go_enter Tryz.func19, Tryz.ntmps19
  go_wp2_with fail
  refine (ca_int _ base g n H.out (by omega) (by omega)).mono ?_
  rintro e w1 ⟨x, rfl, hx0, hx1, hs, hg⟩
  have HS := Lib.hid hs
  clear hs
  obtain ⟨k, rfl⟩ := Int.eq_ofNat_of_zero_le hx0
  have hk : k < L.length := by have := HN.out; omega
  have hc : w1.cell? ⟨B, k, none⟩ = some (.int .i64 L[k]) := by rw [(HBB.out.grown hg (fun e => hne (by injection e with e; exact e.symm))).cell k]; simp [hk]
  have hm := List.getElem_mem hk
  generalize L[k] = y at *
  go_wp2_with fail
  go_ret
  exact ⟨_, rfl, hm, HS.out, hg⟩
end Go.Proofs.YtpldopoeopjcoaaGreatDoor
/- Slices of structs in memory, whatever the struct. -/
namespace Go.Proofs.YtpldopoeopjcoaaGreatDoor
open Go.RowKit
/-- A kind of element: its cells, its types. -/
structure El (α : Type) where
  C : α → List Value
  e : TypeId
  sl : TypeId
  sz : Nat
  bs : Nat
  len : ∀ a, (C a).length = sz
  one : ∀ a, ∀ u ∈ C a, u.oneCell' = true
  pos : 0 < sz
  small : bs ≤ 1000
  hu : Tryz.prog.underlying sl = some (.slice e)
  info : ∃ (i0 : TypeInfo) (z : Value), Tryz.prog.info? e = some i0 ∧ i0.zero = some z ∧ i0.size = sz ∧ i0.bytes = bs ∧ z.cells.size = sz
section
variable {α : Type} {E : El α} {w w' : World} {B B' base lo : Nat} {A : Option Addr} {v : Value} {L M : List α}
theorem El.flat (E : El α) (L : List α) : (L.flatMap E.C).length = L.length * E.sz := by
  induction L with
  | nil => simp
  | cons a L ih => rw [List.flatMap_cons, List.length_append, ih, E.len, List.length_cons, Nat.succ_mul]; omega
theorem El.flat_at (E : El α) : ∀ (L : List α) (k : Nat) (hk : k < L.length) (j : Nat), j < E.sz → (L.flatMap E.C)[k * E.sz + j]? = (E.C (L[k]'hk))[j]?
  | [], k, hk, _, _ => by simp at hk
  | p :: L, 0, _, j, hj => by
    rw [List.flatMap_cons, List.getElem?_append_left (by rw [E.len]; omega)]
    simp
  | p :: L, k + 1, hk, j, hj => by
    have ih := E.flat_at L k (by simp at hk; omega) j hj
    have e : (k + 1) * E.sz + j = E.sz + (k * E.sz + j) := by rw [Nat.succ_mul]; omega
    rw [List.flatMap_cons, e, List.getElem?_append_right (by rw [E.len]; omega), E.len, show E.sz + (k * E.sz + j) - E.sz = k * E.sz + j by omega, ih]
    simp
/-- The slice at A reads as L; it lies below block B. -/
def AtE (E : El α) (w : World) (B : Nat) (A : Option Addr) (L : List α) : Prop := ∀ k (hk : k < L.length), ∃ ad : Addr, A = some ad ∧ ad.block < B ∧ ∀ j, j < E.sz → w.cell? ((ad.add (k * E.sz)).add j) = (E.C (L[k]'hk))[j]?
theorem addE_block (a : Addr) (n : Nat) : (a.add n).block = a.block := by unfold Addr.add; split <;> rfl
theorem AtE.keep (h : AtE E w B A L) (hb : Below B' w w') (hB : B ≤ B') : AtE E w' B A L := fun k hk => by
  obtain ⟨ad, e, hl, hc⟩ := h k hk
  exact ⟨ad, e, hl, fun j hj => (hb.cell (by rw [addE_block, addE_block]; omega)).trans (hc j hj)⟩
theorem AtE.more (h : AtE E w B A L) (hB : B ≤ B') : AtE E w B' A L := fun k hk => by
  obtain ⟨ad, e, hl, hc⟩ := h k hk
  exact ⟨ad, e, by omega, hc⟩
theorem AtE.below (h : AtE E w w.heap.size A L) (hb : Below w.heap.size w w') : AtE E w' w'.heap.size A L := (h.keep hb (Nat.le_refl _)).more hb.size
theorem AtE.nil : AtE E w B A [] := fun k hk => by simp at hk
/-- A slice of the call's own that reads as L. -/
def OwnE (E : El α) (w : World) (base : Nat) (v : Value) (L : List α) : Prop := w.ownsRow base E.e E.sz v L.length (L.flatMap E.C)
theorem OwnE.nil (w : World) (base : Nat) : OwnE E w base (.slice none 0 0) [] := World.ownsRow_nil _ _ _ _
theorem OwnE.alloc (h : OwnE E w base v L) (o : Obj) : OwnE E (w.alloc o) base v L := World.ownsRow.alloc h o
theorem OwnE.ge (h : OwnE E w base v L) : ∀ r, v.ownBlock = some r → base ≤ r := fun r hr => (World.ownsRow.lt h r hr).1
theorem OwnE.lt (h : OwnE E w base v L) : ∀ r, v.ownBlock = some r → r < w.heap.size := fun r hr => (World.ownsRow.lt h r hr).2
theorem OwnE.below (h : OwnE E w base v L) (hb : Below w.heap.size w w') : OwnE E w' base v L :=
  World.ownsRow.kept (row := none) h ⟨hb.os, hb.tape, hb.output, hb.size, fun i hi _ => hb.block i hi⟩ (by
    cases hv : v.ownBlock with
    | none => exact .inl rfl
    | some k => exact .inr (by simp))
theorem OwnE.far (h : OwnE E w base v L) {row : Option Nat} (hg : w.grownBy w' row) (hne : ∀ k, v.ownBlock = some k → row ≠ some k) : OwnE E w' base v L :=
  World.ownsRow.kept h hg (by
    cases hv : v.ownBlock with
    | none => exact .inl rfl
    | some k => right; intro e; exact hne k hv e.symm)
theorem OwnE.farCell (h : OwnE E w base v L) {g i : Nat} (hne : v.ownBlock ≠ some g) (u : Value) : OwnE E (w.setCell ⟨g, i, none⟩ u) base v L :=
  h.far (row := some g) ⟨rfl, rfl, rfl, by simp [World.setCell], fun k _ hk => Below.heap_setCell _ _ _ _ (fun e => hk (by rw [e]))⟩ (fun k hk e => hne (by rw [hk]; exact e.symm))
theorem OwnE.farRow (h : OwnE E w base v L) {g : Nat} (hne : v.ownBlock ≠ some g) (cs : Array Value) : OwnE E (w.setRow g cs) base v L :=
  h.far (row := some g) ⟨rfl, rfl, rfl, by rw [setRow_size]; exact Nat.le_refl _, fun i _ hne => setRow_other _ g i cs (fun e => hne (by rw [e]))⟩ (fun k hk e => hne (by rw [hk]; exact e.symm))
theorem OwnE.low (h : OwnE E w lo v L) (hb : base ≤ lo) : OwnE E w base v L := Joins.ownsRow_le h hb
theorem addE_at (g a b : Nat) : ((⟨g, 0, none⟩ : Addr).add a).add b = ⟨g, a + b, none⟩ := by
  unfold Addr.add
  split
  · split
    · subst_vars; rfl
    · subst_vars; simp
  · split
    · subst_vars; simp
    · simp
theorem addE_zero (g n : Nat) : (⟨g, 0, none⟩ : Addr).add n = ⟨g, n, none⟩ := by
  unfold Addr.add
  split
  · subst_vars; rfl
  · simp
theorem OwnE.at (h : OwnE E w base v L) : ∃ A c, v = .slice A L.length c ∧ AtE E w w.heap.size A L := by
  rcases Joins.ownsRow_forms h with ⟨rfl, h0⟩ | ⟨g, cap, rfl⟩
  · have : L = [] := List.eq_nil_of_length_eq_zero h0
    subst this
    exact ⟨none, 0, rfl, AtE.nil⟩
  · refine ⟨_, cap, rfl, fun k hk => ⟨_, rfl, (World.ownsRow.lt h g rfl).2, fun j hj => ?_⟩⟩
    have hf := E.flat_at L k hk j hj
    have hs : j < (E.C (L[k]'hk)).length := by rw [E.len]; exact hj
    rw [List.getElem?_eq_getElem hs] at hf ⊢
    have hc := World.ownsRow.cells h (g := g) rfl (k * E.sz + j) _ hf
    rw [addE_zero] at hc
    rw [addE_at]
    exact hc
theorem run_append_el (E : El α) (w : World) (base : Nat) (ty : TypeId) (v : Value) (L : List α) (B : Nat) (A : Option Addr) (n c : Nat) (M : List α) (hn : n = M.length) (hown : OwnE E w base v L) (hr : AtE E w B A M) (hlen : L.length + M.length ≤ 1000000) (hbase : base ≤ w.heap.size) :
    ∃ v' w', (Builtin.append_ #[E.sl, E.sl] ty #[v, .slice A n c]).run Tryz.prog w = .ok v' w' ∧ OwnE E w' base v' (L ++ M) ∧ w.grownBy w' v.ownBlock ∧ (v'.ownBlock = v.ownBlock ∨ v'.ownBlock = some w.heap.size) := by
  subst hn
  have h := hown
  obtain ⟨i0, z, hi, hz, hs, hb, hzs⟩ := E.info
  rcases A with _ | ad
  · have hM : M = [] := by
      cases M with
      | nil => rfl
      | cons s r => obtain ⟨ad, e, _⟩ := hr 0 (by simp); cases e
    subst hM
    refine ⟨v, w, ?_, by simpa using hown, World.grownBy.refl w _, .inl rfl⟩
    rcases h.2 with ⟨rfl, _⟩ | ⟨g, cap, cur, rfl, _, _, hnc, _⟩
    · simp [Builtin.append_, run_underlying E.hu, sizeOf, typeInfo, hi, Builtin.lenOf, Builtin.firstCells]
    · simp [Builtin.append_, run_underlying E.hu, sizeOf, typeInfo, hi, Builtin.lenOf, Builtin.firstCells, hnc, storeCells]
  · obtain ⟨v', w', hrun, h2, h3, _, h5⟩ := run_append_own_at (P := Tryz.prog) w base E.sl ty E.e i0 z E.sz E.bs E.hu hi hz hs hb hzs E.pos v L.length _ h ad M.length c (M.flatMap E.C) (E.flat M) (fun j u hu => by
      have hj : j < M.length * E.sz := by have := (List.getElem?_eq_some_iff.1 hu).1; rwa [E.flat] at this
      have hk : j / E.sz < M.length := Nat.div_lt_of_lt_mul (by rw [Nat.mul_comm]; exact hj)
      have e : j = j / E.sz * E.sz + j % E.sz := by rw [Nat.mul_comm]; exact (Nat.div_add_mod j E.sz).symm
      have hm : j % E.sz < E.sz := Nat.mod_lt _ E.pos
      obtain ⟨ad', e', _, hc⟩ := hr (j / E.sz) hk
      cases e'
      have h2 := hc (j % E.sz) hm
      rw [Addr.add_add, ← e] at h2
      rw [h2]
      have h3 := E.flat_at M (j / E.sz) hk (j % E.sz) hm
      rw [← e] at h3
      rw [← h3]; exact hu) (by
      intro u hu
      obtain ⟨t, _, ht⟩ := List.mem_flatMap.1 hu
      exact E.one t u ht) (by unfold maxLen; omega) (by
        have h1 : (L.length + M.length) * E.bs ≤ 1000000 * 1000 := Nat.mul_le_mul hlen E.small
        omega) hbase
    refine ⟨v', w', hrun, ?_, h3, h5⟩
    show w'.ownsRow base E.e E.sz v' (L ++ M).length ((L ++ M).flatMap E.C)
    rw [List.length_append, List.flatMap_append]
    exact h2
/-- The slice of one element that append is handed. -/
theorem row_newE (E : El α) (w : World) (cs : Array Value) (t : TypeId) (x : α) (h : cs.toList = E.C x) (hB : w.heap.size < B) : AtE E (w.alloc (.cells cs t)) B (some ⟨w.heap.size, 0, none⟩) [x] := fun k hk => by
  have hk0 : k = 0 := by simpa using hk
  subst hk0
  refine ⟨_, rfl, hB, fun j hj => ?_⟩
  rw [Nat.zero_mul, addE_at, (Blk.new w cs t).cell, Nat.zero_add, ← Array.getElem?_toList, h]
  rfl
theorem wpList_append_el (E : El α) {ops : Array Oper} {rest : List Oper} {o : Oper} {a : Act} {Q : Exit → Act → World → Prop} (hgd : o.guard = none) (s x : Operand) (ho : o.op = .call { callee := .builtin .append, args := #[s, x], argTypes := #[E.sl, E.sl] })
    (base : Nat) (v : Value) (L : List α) (hs : a.eval s = v) (hown : OwnE E w base v L) (B : Nat) (A : Option Addr) (n c : Nat) (M : List α) (hx : a.eval x = .slice A n c) (hn : n = M.length) (hr : AtE E w B A M) (hlen : L.length + M.length ≤ 1000000) (hbase : base ≤ w.heap.size)
    (h : ∀ v' w', OwnE E w' base v' (L ++ M) → w.grownBy w' v.ownBlock → (v'.ownBlock = v.ownBlock ∨ v'.ownBlock = some w.heap.size) → wpList Tryz.prog ops Q rest (a.put o.dst v') w') : wpList Tryz.prog ops Q (o :: rest) a w :=
  wpList_plain hgd fun K hK => by
    obtain ⟨v', w', hrun, h2, h3, h4⟩ := run_append_el E w base o.type v L B A n c M hn hown hr hlen hbase
    unfold Oper.wp execOp
    simp only [ho, resolve, invoke, builtin, Sem.run_bind, Sem.run_pure, Result.andThen_ok, List.map_toArray, List.map_cons, List.map_nil, hs, hx, hrun]
    exact hK _ _ (h v' w' h2 h3 h4)
theorem step_append_el (E : El α) {ops : Array Oper} {o : Oper} {a : Act} {K : Act → World → Prop} {Q : Exit → Act → World → Prop} {F : Prop} (hgd : o.guard = none) (s x : Operand) (ho : o.op = .call { callee := .builtin .append, args := #[s, x], argTypes := #[E.sl, E.sl] })
    (base : Nat) (v : Value) (L : List α) (hs : a.eval s = v) (hown : OwnE E w base v L) (B : Nat) (A : Option Addr) (n c : Nat) (M : List α) (hx : a.eval x = .slice A n c) (hn : n = M.length) (hr : AtE E w B A M) (hlen : L.length + M.length ≤ 1000000) (hbase : base ≤ w.heap.size)
    (h : ∀ v' w', OwnE E w' base v' (L ++ M) → w.grownBy w' v.ownBlock → (v'.ownBlock = v.ownBlock ∨ v'.ownBlock = some w.heap.size) → K (a.put o.dst v') w') :
    if Region.wanted o (yielded ops a.tmps) = true then Oper.wp Tryz.prog o a w K Q else F := by
  have hw : Region.wanted o (yielded ops a.tmps) = true := by simp [Region.wanted, hgd]
  rw [if_pos hw]
  obtain ⟨v', w', hrun, h2, h3, h4⟩ := run_append_el E w base o.type v L B A n c M hn hown hr hlen hbase
  unfold Oper.wp execOp
  simp only [ho, resolve, invoke, builtin, Sem.run_bind, Sem.run_pure, Result.andThen_ok, List.map_toArray, List.map_cons, List.map_nil, hs, hx, hrun]
  exact h v' w' h2 h3 h4
end
end Go.Proofs.YtpldopoeopjcoaaGreatDoor
/- The two functions safe answer as safeB does, and leave the world alone. -/
namespace Go.Proofs.YtpldopoeopjcoaaGreatDoor
open Go.RowKit
set_option maxHeartbeats 400000 in
theorem vsafe (s : ByteArray) (w : World) (hs : s.size ≤ maxLen) :
    Calls Tryz.prog 57 #[.string s] w fun e w' => e = .returned (.bool (safeB s.data.toList)) ∧ w = w' := by
  unfold maxLen at hs
  go_enter Tryz.func57, Tryz.ntmps57
  go_wp2
  go_loop [6] (fun i => ∃ k : Nat, k ≤ s.size ∧ i = .int .i64 k ∧ Hid (safeB (s.data.toList.take k) = true)) (fun i => s.size - (intOf i).toNat)
  case atStart => exact ⟨0, Nat.zero_le _, rfl, rfl⟩
  case round =>
    obtain ⟨k, hk, rfl, hsafe⟩ := hrel
    by_cases hlt : k < s.size
    · by_cases hc : okc s[k] = true
      · have H := Lib.hid (safe_step s k hlt hsafe.out hc)
        obtain ⟨c1, c2, c3⟩ := okc_true_inv hc
        clear hc
        go_wp2
        go_round
        case rel => exact ⟨k + 1, by omega, by go_num, H⟩
        case measure => simp [intOf]; omega
      · have H := Lib.hid (safe_stop s k hlt (by simpa using hc))
        have hc' := Lib.hid hc
        clear hc
        go_wp2
        case roundEnd => exact absurd (okc_true (by omega) (by omega) (by simp_all)) hc'.out
        all_goals
          go_ret
          exact ⟨retB H.out.symm, rfl⟩
    · go_wp2
      go_ret
      exact ⟨retB (by rw [← take_all s k (by omega), hsafe.out]), rfl⟩
end Go.Proofs.YtpldopoeopjcoaaGreatDoor
