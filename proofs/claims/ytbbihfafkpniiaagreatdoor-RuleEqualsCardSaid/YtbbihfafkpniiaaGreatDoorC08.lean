/- Texts of one proof, laid together. -/
import Derived.Test.YtbbihfafkpniiaaGreatDoorC02
import Derived.Laws.Tables
import Derived.Test.YtbbihfafkpniiaaGreatDoorC01
import Derived.OwnWalk
import Derived.Lib.Join
import Derived.Test.YtbbihfafkpniiaaGreatDoorC06
import Derived.Test.YtbbihfafkpniiaaGreatDoorC05
import Derived.Test.YtbbihfafkpniiaaGreatDoorC07
/- Blocks that are known whole. -/
namespace Go.Proofs.YtbbihfafkpniiaaGreatDoor
open Go.RowKit
/-- Block g holds the cells cs, none of them frozen. -/
def Blk (w : World) (g : Nat) (t : TypeId) (cs : Array Value) : Prop := w.heap[g]? = some (.cells cs t (0, 0))
theorem Blk.lt {w : World} {g : Nat} {t : TypeId} {cs : Array Value} (h : Blk w g t cs) : g < w.heap.size := (Array.getElem?_eq_some_iff.1 h).1
theorem Blk.new (w : World) (cs : Array Value) (t : TypeId) : Blk (w.alloc (.cells cs t)) w.heap.size t cs := heap_alloc_new w _
theorem Blk.cell {w : World} {g : Nat} {t : TypeId} {cs : Array Value} (h : Blk w g t cs) (i : Nat) : w.cell? ⟨g, i, none⟩ = cs[i]? := cell_of_row w g i cs t (0, 0) h
theorem Blk.free {w : World} {g : Nat} {t : TypeId} {cs : Array Value} (h : Blk w g t cs) (i : Nat) : w.frozen? ⟨g, i, none⟩ = false := frozen_of_row w g i cs t h
theorem Blk.keep {w w' : World} {g : Nat} {t : TypeId} {cs : Array Value} (h : Blk w g t cs) {B : Nat} (hb : Below B w w') (hB : g < B) : Blk w' g t cs := (hb.block g hB).trans h
theorem Blk.below {w w' : World} {g : Nat} {t : TypeId} {cs : Array Value} (h : Blk w g t cs) (hb : Below w.heap.size w w') : Blk w' g t cs := h.keep hb h.lt
theorem Blk.alloc {w : World} {g : Nat} {t : TypeId} {cs : Array Value} (h : Blk w g t cs) (o : Obj) : Blk (w.alloc o) g t cs := h.below ((Below.refl _ _).alloc (Nat.le_refl _) _)
theorem Blk.drewN {w : World} {g : Nat} {t : TypeId} {cs : Array Value} (h : Blk w g t cs) (n : Nat) : Blk (w.drewN n) g t cs := h
theorem Blk.grown {w w' : World} {g : Nat} {t : TypeId} {cs : Array Value} (h : Blk w g t cs) {row : Option Nat} (hg : w.grownBy w' row) (hne : row ≠ some g) : Blk w' g t cs := (hg.block g h.lt (fun e => hne e.symm)).trans h
theorem Blk.row {w : World} {g : Nat} {t : TypeId} {cs : Array Value} (h : Blk w g t cs) (ds : Array Value) : Blk (w.setRow g ds) g t ds := setRow_heap w g cs ds t _ h
theorem Blk.row_other {w : World} {g k : Nat} {t : TypeId} {cs : Array Value} (h : Blk w g t cs) (ds : Array Value) (hne : g ≠ k) : Blk (w.setRow k ds) g t cs := (setRow_other w k g ds hne).trans h
theorem Blk.put {w : World} {g : Nat} {t : TypeId} {cs : Array Value} (h : Blk w g t cs) (i : Nat) (v : Value) : Blk (w.setCell ⟨g, i, none⟩ v) g t (cs.setIfInBounds i v) := heap_setCell_same w g i cs t v h
theorem Blk.put_other {w : World} {g : Nat} {t : TypeId} {cs : Array Value} (h : Blk w g t cs) {p : Addr} (v : Value) (hne : g ≠ p.block) : Blk (w.setCell p v) g t cs := (heap_setCell_other w p g v hne).trans h
theorem below_row {B g : Nat} {a w : World} (h : Below B a w) (hg : B ≤ g) (cs : Array Value) : Below B a (w.setRow g cs) :=
  ⟨h.os, h.tape, h.output, by rw [setRow_size]; exact h.size, fun i hi => (setRow_other w g i cs (by omega)).trans (h.block i hi)⟩
/-- A box: Below the new block. -/
theorem boxed {w w1 : World} {o : Obj} (hb : Below (w.alloc o).heap.size (w.alloc o) w1) : Below (w.heap.size + 1) (w.alloc o) w1 := by simpa using hb
theorem unbox {w w1 : World} {o : Obj} (hb : Below (w.heap.size + 1) (w.alloc o) w1) : Below w.heap.size w w1 := ((Below.refl _ _).alloc (Nat.le_refl _) _).trans (hb.mono (by omega))
theorem unbox' {w w1 : World} {o : Obj} (hb : Below (w.alloc o).heap.size (w.alloc o) w1) : Below w.heap.size w w1 := unbox (boxed hb)
theorem store_blk {P : Program} {ops : Array Oper} {rest : List Oper} {o : Oper} {a : Act} {w : World} {Q : Exit → Act → World → Prop} (hgd : o.guard = none) (ty : TypeId) (x y : Operand) (ho : o.op = .store ty x y)
    {g : Nat} {t : TypeId} {old : Array Value} (hg : Blk w g t old) (cells : Array Value) (hx : a.eval x = .pointer (some ⟨g, 0, none⟩)) (hy : a.eval y = .agg cells)
    (hi : (P.info? ty).map (·.size) = some cells.size) (hold : old.size = cells.size) (h1 : cells.all (·.oneCell') = true)
    (h : wpList P ops Q rest (a.put o.dst undef) (w.setRow g cells)) : wpList P ops Q (o :: rest) a w :=
  wpList_store_row hgd ty x y ho g cells hx hy t old hg hi hold h1 h
theorem load_blk {P : Program} {ops : Array Oper} {rest : List Oper} {o : Oper} {a : Act} {w : World} {Q : Exit → Act → World → Prop} (hgd : o.guard = none) (ty : TypeId) (x : Operand) (ho : o.op = .load ty x)
    {g : Nat} {t : TypeId} {cs : Array Value} (hg : Blk w g t cs) (hx : a.eval x = .pointer (some ⟨g, 0, none⟩)) (d : TypeDesc)
    (hu : P.underlying ty = some d) (hd : (match d with | .struct _ | .array _ _ => true | _ => false) = true) (hi : (P.info? ty).map (·.size) = some cs.size)
    (h : wpList P ops Q rest (a.put o.dst (.agg cs)) w) : wpList P ops Q (o :: rest) a w :=
  wpList_load_row hgd ty x ho g hx t cs (0, 0) d hg hu hd hi h
end Go.Proofs.YtbbihfafkpniiaaGreatDoor
/- Slices of strings. -/
namespace Go.Proofs.YtbbihfafkpniiaaGreatDoor
open Go.ChangeShapes Go.WideShapes Go.RowKit
/-- The slice at A reads as the strings ss; it lies below block B. -/
def StrsAt (w : World) (B : Nat) (A : Option Addr) (ss : List ByteArray) : Prop := ∀ k (hk : k < ss.length), ∃ ad : Addr, A = some ad ∧ ad.block < B ∧ w.cell? (ad.add k) = some (.string (ss[k]'hk))
theorem strs_block (a : Addr) (n : Nat) : (a.add n).block = a.block := by unfold Addr.add; split <;> rfl
theorem StrsAt.keep {w w' : World} {B B' : Nat} {A : Option Addr} {ss : List ByteArray} (h : StrsAt w B A ss) (hb : Below B' w w') (hB : B ≤ B') : StrsAt w' B A ss := fun k hk => by
  obtain ⟨ad, e, hl, hc⟩ := h k hk
  exact ⟨ad, e, hl, (hb.cell (by rw [strs_block]; omega)).trans hc⟩
theorem StrsAt.more {w : World} {B B' : Nat} {A : Option Addr} {ss : List ByteArray} (h : StrsAt w B A ss) (hB : B ≤ B') : StrsAt w B' A ss := fun k hk => by
  obtain ⟨ad, e, hl, hc⟩ := h k hk
  exact ⟨ad, e, by omega, hc⟩
theorem StrsAt.nil {w : World} {B : Nat} {A : Option Addr} : StrsAt w B A [] := fun k hk => by simp at hk
theorem StrsAt.setCell {w : World} {B : Nat} {A : Option Addr} {ss : List ByteArray} (h : StrsAt w B A ss) {p : Addr} (hp : B ≤ p.block) (u : Value) : StrsAt (w.setCell p u) B A ss :=
  h.keep ((Below.refl B w).setCell hp u) (Nat.le_refl _)
def longB (ss : List ByteArray) (m : Nat) : Bool := ss.any fun s => decide (m < s.size)
theorem long_at {ss : List ByteArray} {m k : Nat} (hk : k < ss.length) (h : m < ss[k].size) : longB ss m = true := by
  unfold longB; rw [List.any_eq_true]
  exact ⟨ss[k], List.getElem_mem hk, by simpa using h⟩
theorem long_all {ss : List ByteArray} {m : Nat} (h : ∀ j (hj : j < ss.length), ss[j].size ≤ m) : longB ss m = false := by
  unfold longB; rw [List.any_eq_false]
  intro s hs
  obtain ⟨j, hj, rfl⟩ := List.getElem_of_mem hs
  simpa using h j hj
theorem long_inv {ss : List ByteArray} {m : Nat} (h : longB ss m = false) : ∀ j (hj : j < ss.length), ss[j].size ≤ m := by
  intro j hj
  unfold longB at h
  have := (List.any_eq_false.1 h) _ (List.getElem_mem hj)
  simpa using this
end Go.Proofs.YtbbihfafkpniiaaGreatDoor
/- Words of the call's own, and the text that they make with a space between. -/
namespace Go.Proofs.YtbbihfafkpniiaaGreatDoor
open Go.RowKit
theorem Tryz.infoS : (Tryz.prog.info? 9).map (fun i => (i.zero, i.size, i.bytes)) = some (some (.string ⟨#[]⟩), 1, 16) := by kernel_rfl
/-- The slice v owns the strings L. -/
def OwnS (w : World) (base : Nat) (v : Value) (L : List ByteArray) : Prop := w.ownsRow base 9 1 v L.length (L.map Value.string)
theorem OwnS.out {w : World} {base : Nat} {v : Value} {L : List ByteArray} (h : OwnS w base v L) : w.ownsRow base 9 1 v L.length (L.map Value.string) := h
theorem OwnS.nil (w : World) (base : Nat) : OwnS w base (.slice none 0 0) [] := World.ownsRow_nil _ _ _ _
theorem OwnS.alloc {w : World} {base : Nat} {v : Value} {L : List ByteArray} (h : OwnS w base v L) (o : Obj) : OwnS (w.alloc o) base v L := World.ownsRow.alloc h o
theorem OwnS.below {w w' : World} {base : Nat} {v : Value} {L : List ByteArray} (h : OwnS w base v L) (hb : Below w.heap.size w w') : OwnS w' base v L :=
  World.ownsRow.kept (row := none) h ⟨hb.os, hb.tape, hb.output, hb.size, fun i hi _ => hb.block i hi⟩ (by
    cases hv : v.ownBlock with
    | none => exact .inl rfl
    | some k => exact .inr (by simp))
theorem OwnS.one (w : World) {base : Nat} (hb : base ≤ w.heap.size) (x : ByteArray) : OwnS (w.alloc (.cells #[.string x] 9)) base (.slice (some ⟨w.heap.size, 0, none⟩) 1 1) [x] :=
  World.ownsRow_lit w #[.string x] 1 hb (by unfold maxLen; omega) rfl
theorem OwnS.snoc {w : World} {base n : Nat} {v : Value} {L : List ByteArray} {x : ByteArray} {xs : List Value} (h : w.ownsRow base 9 1 v n xs) (hn : n = L.length + 1) (hx : xs = L.map Value.string ++ [.string x]) : OwnS w base v (L ++ [x]) := by
  subst hn hx
  show w.ownsRow base 9 1 v (L ++ [x]).length ((L ++ [x]).map Value.string)
  simpa using h
/-- A text made of words. -/
def catW (s : ByteArray) (ts : List ByteArray) : ByteArray := ts.foldl (fun s t => s ++ (⟨#[32]⟩ ++ t)) s
theorem catW_snoc (s : ByteArray) (ts : List ByteArray) (t : ByteArray) : catW s (ts ++ [t]) = catW s ts ++ (⟨#[32]⟩ ++ t) := by simp [catW, List.foldl_append]
theorem catW_cons (s t : ByteArray) (ts : List ByteArray) : catW s (t :: ts) = catW (s ++ (⟨#[32]⟩ ++ t)) ts := rfl
theorem catW_list : ∀ (ts : List ByteArray) (s : ByteArray), (catW s ts).data.toList = s.data.toList ++ Lib.joinTail [32] (ts.map (·.data.toList))
  | [], s => by simp [catW, Lib.joinTail]
  | t :: ts, s => by
    rw [catW_cons, catW_list ts]
    simp [Lib.joinTail]
theorem catW_size (M : Nat) : ∀ (ts : List ByteArray) (s : ByteArray), (∀ t ∈ ts, t.size ≤ M) → (catW s ts).size ≤ s.size + ts.length * (M + 1)
  | [], s, _ => by simp [catW]
  | t :: ts, s, h => by
    rw [catW_cons]
    have h1 := catW_size M ts (s ++ (⟨#[32]⟩ ++ t)) (fun x hx => h x (List.mem_cons_of_mem _ hx))
    have h2 := h t List.mem_cons_self
    have e : (s ++ ((⟨#[32]⟩ : ByteArray) ++ t)).size = s.size + (1 + t.size) := by rw [ByteArray.size_append, ByteArray.size_append]; rfl
    rw [e] at h1
    rw [List.length_cons, Nat.add_mul]
    omega
theorem catW_join (x : ByteArray) (L : List ByteArray) : (⟨(Lib.join ((x :: L).map (·.data.toList)) [32]).toArray⟩ : ByteArray) = catW x L := by
  apply ByteArray.ext
  apply Array.toList_inj.1
  rw [List.map_cons, Lib.join_cons, catW_list]
theorem vjoinW (w : World) (base g cap : Nat) (x : ByteArray) (L : List ByteArray) (hown : OwnS w base (.slice (some ⟨g, 0, none⟩) (x :: L).length cap) (x :: L)) (hL : L.length ≤ 1000) (hx : x.size ≤ 100000) (hs : ∀ s ∈ L, s.size ≤ 100000) :
    Calls Tryz.prog 46 #[.slice (some ⟨g, 0, none⟩) (x :: L).length cap, .string ⟨#[32]⟩] w fun e w' => e = .returned (.string (catW x L)) ∧ Below w.heap.size w w' := by
  have h := hown.out
  have hcap : (x :: L).length ≤ cap := by
    rcases h.2 with ⟨h, _⟩ | ⟨g', cap', cur, h, _, _, hnc, _⟩
    · simp at h
    · injection h with _ _ h; omega
  have hg := (h.lt g rfl).2
  have hj := Tryz.strings_Join g 0 cap (x :: L) ⟨#[32]⟩ w (fun j y hy => by
      rw [Nat.zero_add]
      have hj : j < (x :: L).length := (List.getElem?_eq_some_iff.1 hy).1
      rw [h.cellAt j (by omega), List.getElem?_map, hy]; rfl) hg (by simp; omega) hcap (by
      have e : (Lib.join ((x :: L).map (·.data.toList)) [32]).length = (catW x L).size := by
        rw [← catW_join x L]; show _ = (Lib.join ((x :: L).map (·.data.toList)) [32]).toArray.size; simp
      have := catW_size 100000 L x hs
      have h3 : L.length * (100000 + 1) ≤ 1000 * (100000 + 1) := Nat.mul_le_mul_right _ hL
      show (Lib.join ((x :: L).map (·.data.toList)) [32]).length ≤ _
      rw [e]; omega)
  exact hj.mono fun _ _ hh => ⟨by rw [hh.1]; exact congrArg (fun s => Ending.returned (.string s)) (catW_join x L), hh.2⟩
theorem vjoinN (w : World) (base g cap n : Nat) (x : ByteArray) (L : List ByteArray) (hn : (x :: L).length = n) (hown : OwnS w base (.slice (some ⟨g, 0, none⟩) n cap) (x :: L)) (hL : L.length ≤ 1000) (hx : x.size ≤ 100000) (hs : ∀ s ∈ L, s.size ≤ 100000) :
    Calls Tryz.prog 46 #[.slice (some ⟨g, 0, none⟩) n cap, .string ⟨#[32]⟩] w fun e w' => e = .returned (.string (catW x L)) ∧ Below w.heap.size w w' := by
  subst hn; exact vjoinW w base g cap x L hown hL hx hs
end Go.Proofs.YtbbihfafkpniiaaGreatDoor
/- Names and clean paths: plain functions. -/
namespace Go.Proofs.YtbbihfafkpniiaaGreatDoor
def nsC (c : UInt8) : Bool := c != 0 && c != 47
/-- The name of an entry of a directory. -/
def nameB (s : ByteArray) : Bool := decide (1 ≤ s.size) && decide (s.size ≤ 12) && !(s.toList == [46]) && !(s.toList == [46, 46]) && s.data.toList.all nsC
def restOf (s : ByteArray) : ByteArray := s.extract 1 s.size
/-- A clean path. -/
def cleanB (s : ByteArray) : Bool := s.toList == [47] || (s.data.toList.head? == some 47 && (piecesOf 47 (restOf s)).all nameB)
/-- The pieces with a slash before each. -/
def slashL (L : List ByteArray) : ByteArray := L.foldl (fun t x => t ++ (⟨#[47]⟩ ++ x)) ⟨#[]⟩
theorem slash_snoc (L : List ByteArray) (x : ByteArray) : slashL (L ++ [x]) = slashL L ++ (⟨#[47]⟩ ++ x) := by simp [slashL, List.foldl_append]
theorem slash_fold : ∀ (L : List ByteArray) (t : ByteArray), (L.foldl (fun t x => t ++ ((⟨#[47]⟩ : ByteArray) ++ x)) t).data.toList = t.data.toList ++ Lib.joinTail [47] (L.map (·.data.toList))
  | [], t => by simp [Lib.joinTail]
  | x :: L, t => by
    rw [List.foldl_cons, slash_fold L]
    simp [Lib.joinTail]
theorem slash_list (L : List ByteArray) : (slashL L).data.toList = Lib.joinTail [47] (L.map (·.data.toList)) := by
  have := slash_fold L ⟨#[]⟩
  unfold slashL; rw [this]; rfl
theorem slash_cons (x : ByteArray) (L : List ByteArray) : (slashL (x :: L)).data.toList = 47 :: joinL 47 (x :: L) := by
  rw [slash_list]; simp [joinL, Lib.joinTail]
theorem name_noc {s : ByteArray} (h : nameB s = true) : NoC 47 s := fun c hc e => by
  unfold nameB at h
  simp only [Bool.and_eq_true] at h
  have := List.all_eq_true.1 h.2 c hc
  unfold nsC at this
  rw [e] at this; exact absurd this (by decide)
theorem name_ne {s : ByteArray} (h : nameB s = true) : s.size ≠ 0 := by
  unfold nameB at h
  simp only [Bool.and_eq_true, decide_eq_true_eq] at h
  omega
def fullB (x : ByteArray) : Bool := decide (x.size ≠ 0)
theorem tl_eq {a : ByteArray} {l : List UInt8} : (a.toList == l) = true ↔ a.data.toList = l := by rw [ByteArray.toList_eq, beq_iff_eq]
theorem rest_list (s : ByteArray) : (restOf s).data.toList = s.data.toList.drop 1 := by
  unfold restOf; rw [extract_list, List.take_of_length_le (by rw [bsz]; exact Nat.le_refl _)]
/-- What the reference asks of a text is that it is a clean path. -/
theorem clean_ref {s : ByteArray} {L : List ByteArray} (hw : IsW 47 s L) : ((L.filter fullB).all nameB && (s.toList == [47] || (decide (0 < (L.filter fullB).length) && (s.toList == (slashL (L.filter fullB)).toList)))) = cleanB s := by
  rw [Bool.eq_iff_iff]
  simp only [Bool.and_eq_true, Bool.or_eq_true, decide_eq_true_eq]
  unfold cleanB
  simp only [Bool.and_eq_true, Bool.or_eq_true]
  constructor
  · rintro ⟨h1, h2 | ⟨h2, h3⟩⟩
    · exact .inl h2
    · right
      generalize L.filter fullB = M at *
      have h3 := tl_eq.1 h3
      rw [ByteArray.toList_eq] at h3
      cases M with
      | nil => simp at h2
      | cons x M =>
        rw [slash_cons] at h3
        refine ⟨by rw [h3]; rfl, ?_⟩
        have : piecesOf 47 (restOf s) = x :: M := pieces_of ⟨by simp, fun y hy => name_noc (List.all_eq_true.1 h1 y hy), by rw [rest_list, h3]; rfl⟩
        rw [this]; exact h1
  · rintro (h | ⟨h1, h2⟩)
    · have hs := tl_eq.1 h
      have e : L = [⟨#[]⟩, ⟨#[]⟩] := hw.unique ⟨by simp, (by intro x hx; simp at hx; rw [hx]; intro c hc; cases hc), (by rw [hs]; rfl)⟩
      subst e
      exact ⟨rfl, .inl h⟩
    · have hh : ∃ r, s.data.toList = 47 :: r := by
        cases he : s.data.toList with
        | nil => rw [he] at h1; cases h1
        | cons c r =>
          rw [he] at h1
          have : c = 47 := by simpa using h1
          exact ⟨r, by rw [this]⟩
      obtain ⟨r, hr⟩ := hh
      have hp := isW_pieces 47 (restOf s)
      have hL : L = ⟨#[]⟩ :: piecesOf 47 (restOf s) := hw.unique (isW_cons (a := ⟨#[]⟩) (b := restOf s) (by rw [rest_list, hr]; rfl) (by intro c hc; cases hc) hp)
      have hf : L.filter fullB = piecesOf 47 (restOf s) := by
        rw [hL, List.filter_cons, if_neg (by decide)]
        exact List.filter_eq_self.2 fun x hx => by
          have := name_ne (List.all_eq_true.1 h2 x hx)
          unfold fullB; simpa using this
      rw [hf]
      refine ⟨h2, .inr ⟨?_, ?_⟩⟩
      · have := hp.ne
        cases hq : piecesOf 47 (restOf s) with
        | nil => exact absurd hq this
        | cons x M => simp
      · rw [tl_eq, ByteArray.toList_eq, hr]
        cases hq : piecesOf 47 (restOf s) with
        | nil => exact absurd hq hp.ne
        | cons x M =>
          rw [slash_cons]
          have := hp.eq
          rw [hq, rest_list, hr] at this
          rw [← this]; rfl
end Go.Proofs.YtbbihfafkpniiaaGreatDoor
/- Rules and their texts: plain functions. -/
namespace Go.Proofs.YtbbihfafkpniiaaGreatDoor
structure Tst where
  fd : Int
  op : Int
  nu : Int
  tx : ByteArray
  ot : Int
structure Rul where
  li : Int
  ac : Int
  ca : Nat
  ts : List Tst
  wa : Int
  pa : ByteArray
  pe : Int
  ke : ByteArray
def Tst.chk (t : Tst) (l : Int) : Int := checkF t.fd t.op t.nu t.tx t.ot l
def Tst.txt (t : Tst) : ByteArray := testS t.fd t.op t.nu t.tx t.ot
def Tst.any (t : Tst) : Int := anyE t.fd t.op t.nu t.tx t.ot
/-- The first error of tests. -/
def firstE : List Tst → Int → Int
  | [], _ => 0
  | t :: ts, l => if t.chk l = 0 then firstE ts l else t.chk l
def callsB (li : Int) : Bool := decide (li = 2 ∨ li = 3)
def watchB (wa pe li : Int) (pa : ByteArray) : Bool :=
  if wa = 0 then decide (pa.size = 0 ∧ pe = 0)
  else if wa = 1 ∨ wa = 2 then decide (li = 3) && cleanB pa && decide (pa.size ≤ 128 ∧ 1 ≤ pe ∧ pe ≤ 15)
  else false
/-- The first error of a rule. -/
def checkR (r : Rul) : Int :=
  if r.li < 1 ∨ 5 < r.li then 130
  else if r.ac ≠ 1 ∧ r.ac ≠ 2 then 131
  else if callsB r.li = true ∧ (r.ca = 0 ∨ 4294967296 ≤ r.ca) then 132
  else if callsB r.li = false ∧ r.ca ≠ 0 then 132
  else if 8 < r.ts.length then 133
  else if firstE r.ts r.li ≠ 0 then firstE r.ts r.li
  else if watchB r.wa r.pe r.li r.pa = false then 134
  else if 31 < r.ke.size then 135
  else 0
def actL : List ByteArray := [⟨#[]⟩, ⟨#[97, 108, 119, 97, 121, 115]⟩, ⟨#[110, 101, 118, 101, 114]⟩]
def listL : List ByteArray := [⟨#[]⟩, ⟨#[116, 97, 115, 107]⟩, ⟨#[101, 110, 116, 114, 121]⟩, ⟨#[101, 120, 105, 116]⟩, ⟨#[117, 115, 101, 114]⟩, ⟨#[101, 120, 99, 108, 117, 100, 101]⟩]
def actN (k : Nat) : ByteArray := actL.getD k ⟨#[]⟩
def listN (k : Nat) : ByteArray := listL.getD k ⟨#[]⟩
/-- The letters of a set of permissions. -/
def permS (n : Int) : ByteArray := ⟨((if n.toNat.testBit 2 then [(114 : UInt8)] else []) ++ (if n.toNat.testBit 1 then [119] else []) ++ (if n.toNat.testBit 0 then [120] else []) ++ (if n.toNat.testBit 3 then [97] else [])).toArray⟩
def fA : ByteArray := ⟨#[45, 97]⟩
def fS : ByteArray := ⟨#[45, 83]⟩
def fF : ByteArray := ⟨#[45, 70]⟩
def fC : ByteArray := ⟨#[45, 67]⟩
def fK : ByteArray := ⟨#[45, 107]⟩
def fW : ByteArray := ⟨#[45, 119]⟩
def fT : ByteArray := ⟨#[45, 116]⟩
def fP : ByteArray := ⟨#[45, 112]⟩
def pathW : ByteArray := ⟨#[112, 97, 116, 104, 61]⟩
def dirW : ByteArray := ⟨#[100, 105, 114, 61]⟩
def permW : ByteArray := ⟨#[112, 101, 114, 109, 61]⟩
/-- What stands behind -F or -C. -/
inductive Part where
  | tst (t : Tst)
  | fil (p : ByteArray)
  | dir (p : ByteArray)
  | prm (n : Int)
def Part.flag : Part → ByteArray
  | .tst t => if t.ot ≠ 0 then fC else fF
  | _ => fF
def Part.txt : Part → ByteArray
  | .tst t => t.txt
  | .fil p => pathW ++ quoteS p
  | .dir p => dirW ++ quoteS p
  | .prm n => permW ++ permS n
def Part.ok : Part → Prop
  | .tst t => t.any = 0 ∧ I64 t.nu
  | .fil p => p.size ≤ 128
  | .dir p => p.size ≤ 128
  | .prm n => 1 ≤ n ∧ n ≤ 15
def Rul.put (r : Rul) : Part → Rul
  | .tst t => { r with ts := r.ts ++ [t] }
  | .fil p => { r with wa := 1, pa := p }
  | .dir p => { r with wa := 2, pa := p }
  | .prm n => { r with pe := n }
def watchP (r : Rul) : List Part := if r.wa = 1 then [.fil r.pa, .prm r.pe] else if r.wa = 2 then [.dir r.pa, .prm r.pe] else []
def partsR (r : Rul) : List Part := r.ts.map .tst ++ watchP r
def partW (ps : List Part) : List ByteArray := ps.flatMap fun p => [p.flag, p.txt]
def keyW (k : ByteArray) : List ByteArray := if k.size = 0 then [] else [fK, quoteS k]
def callW (r : Rul) : List ByteArray := if callsB r.li = true then [fS, maskS r.ca] else []
def headW (r : Rul) : ByteArray := actN r.ac.toNat ++ ⟨#[44]⟩ ++ listN r.li.toNat
/-- The words of a rule's text behind the first. -/
def restR (r : Rul) : List ByteArray := headW r :: (callW r ++ (partW (partsR r) ++ keyW r.ke))
def textR (r : Rul) : ByteArray := catW fA (restR r)
def fmtR (r : Rul) : ByteArray := if checkR r = 0 then textR r else ⟨#[]⟩
def allCalls : Nat := 4294967295
def flagW (wa : Int) : ByteArray := if wa = 2 then fT else fW
def restW (r : Rul) : List ByteArray := quoteS r.pa :: fP :: permS r.pe :: keyW r.ke
def shortT (r : Rul) : ByteArray := catW (flagW r.wa) (restW r)
def shortB (r : Rul) : Bool := decide (checkR r = 0) && decide (r.wa ≠ 0 ∧ r.li = 3 ∧ r.ac = 1 ∧ r.ts.length = 0 ∧ r.ca = allCalls)
def shortS (r : Rul) : ByteArray := if shortB r = true then shortT r else ⟨#[]⟩
def zeroR : Rul := ⟨0, 0, 0, [], 0, ⟨#[]⟩, 0, ⟨#[]⟩⟩
/-- A rule that Check accepts. -/
structure GoodR (r : Rul) : Prop where
  ok : checkR r = 0
  nums : ∀ t ∈ r.ts, I64 t.nu
def baseR (r : Rul) : Rul := { zeroR with li := r.li, ac := r.ac, ca := r.ca }
structure ChkR (r : Rul) : Prop where
  li : 1 ≤ r.li ∧ r.li ≤ 5
  ac : r.ac = 1 ∨ r.ac = 2
  ca : (callsB r.li = true ∧ r.ca ≠ 0 ∧ r.ca < 4294967296) ∨ (callsB r.li = false ∧ r.ca = 0)
  len : r.ts.length ≤ 8
  tst : firstE r.ts r.li = 0
  wat : watchB r.wa r.pe r.li r.pa = true
  key : r.ke.size ≤ 31
theorem checkR_zero {r : Rul} (h : checkR r = 0) : ChkR r := by
  unfold checkR at h
  split at h
  · cases h
  split at h
  · cases h
  split at h
  · cases h
  split at h
  · cases h
  split at h
  · cases h
  split at h
  · rename_i h6; exact absurd h h6
  split at h
  · cases h
  split at h
  · cases h
  rename_i h1 h2 h3 h4 h5 h6 h7 h8
  refine ⟨by omega, by omega, ?_, by omega, by omega, by simpa using h7, by omega⟩
  cases hc : callsB r.li
  · right; refine ⟨rfl, ?_⟩
    have := h4; simp [hc] at this; exact this
  · left; refine ⟨rfl, ?_⟩
    have := h3; simp [hc] at this; omega
theorem ChkR.zero {r : Rul} (h : ChkR r) : checkR r = 0 := by
  obtain ⟨h1, h2, h3, h4, h5, h6, h7⟩ := h
  unfold checkR
  rw [if_neg (by omega), if_neg (by omega), if_neg (by rintro ⟨a, b⟩; rcases h3 with h | h; omega; rw [h.1] at a; cases a), if_neg (by rintro ⟨a, b⟩; rcases h3 with h | h; rw [h.1] at a; cases a; exact b h.2), if_neg (by omega), if_neg (by simpa using h5), if_neg (by rw [h6]; decide), if_neg (by omega)]
theorem firstE_all {l : Int} : ∀ {ts : List Tst}, firstE ts l = 0 → ∀ t ∈ ts, t.chk l = 0
  | [], _, t, ht => by cases ht
  | t :: ts, h, u, hu => by
    unfold firstE at h
    split at h
    · rename_i h0
      rcases List.mem_cons.1 hu with rfl | hu
      · exact h0
      · exact firstE_all h u hu
    · rename_i h0; exact absurd h h0
theorem firstE_at {l : Int} : ∀ {ts : List Tst} {k : Nat} (hk : k < ts.length), firstE (ts.take k) l = 0 → ts[k].chk l ≠ 0 → firstE ts l = ts[k].chk l
  | [], k, hk, _, _ => by simp at hk
  | t :: ts, 0, _, _, h => by unfold firstE; exact if_neg h
  | t :: ts, k + 1, hk, h0, h => by
    rw [List.take_succ_cons] at h0
    have ht := firstE_all h0 t List.mem_cons_self
    have h1 : firstE (ts.take k) l = 0 := by unfold firstE at h0; rw [if_pos ht] at h0; exact h0
    have := firstE_at (ts := ts) (k := k) (by simp at hk; omega) h1 h
    unfold firstE
    rw [if_pos ht, this]; rfl
theorem firstE_snoc {l : Int} : ∀ {ts : List Tst} {t : Tst}, firstE ts l = 0 → t.chk l = 0 → firstE (ts ++ [t]) l = 0
  | [], t, _, h => by simp [firstE, h]
  | u :: ts, t, h0, h => by
    have hu := firstE_all h0 u List.mem_cons_self
    have h1 : firstE ts l = 0 := by unfold firstE at h0; rw [if_pos hu] at h0; exact h0
    show firstE (u :: (ts ++ [t])) l = 0
    unfold firstE; rw [if_pos hu]; exact firstE_snoc h1 h
theorem firstE_next {l : Int} {ts : List Tst} {k : Nat} (hk : k < ts.length) (h0 : firstE (ts.take k) l = 0) (h : ts[k].chk l = 0) : firstE (ts.take (k + 1)) l = 0 := by
  rw [List.take_succ_eq_append_getElem hk]; exact firstE_snoc h0 h
/-- A test that a list permits is one for which Format has a text. -/
theorem any_of_chk {t : Tst} {l : Int} (h : t.chk l = 0) : t.any = 0 := by
  obtain ⟨h1, h2, h3, h4, h5, h6, h7⟩ := checkF_zero h
  have r1 := allow_range h1
  have mono : ∀ f : Int, allowB l f = true → l ≠ 5 → allowB 3 f = true := fun f hf hl => by
    unfold allowB procB at hf
    have e : allowB 3 f = decide (1 ≤ f ∧ f ≤ 21) := by unfold allowB; simp
    rw [e]
    split at hf
    · simp at hf ⊢; omega
    · split at hf
      · simp at hf ⊢; omega
      · split at hf
        · simp at hf ⊢; omega
        · cases hf
  have same : ∀ m : Int, allowB m t.fd = true → (t.ot = 0 ∨ allowB m t.ot = true) → checkF t.fd t.op t.nu t.tx t.ot m = 0 := fun m hm ho => by
    unfold checkF
    rw [if_neg (by rw [hm]; decide), if_neg (by
      rintro ⟨a, b⟩
      rcases h2 with h | ⟨_, h8, h9⟩
      · exact a h
      · rcases ho with ho | ho
        · exact a ho
        · rw [ho, h8, h9] at b; simp at b), if_neg (by omega), if_neg (by
      rintro ⟨a, b⟩
      rcases h4 with h | ⟨h8, h9⟩
      · omega
      · rw [h8] at b; simp at b; exact b h9), if_neg (by
      rintro ⟨a, b⟩
      rcases h5 with h | ⟨h8, h9⟩
      · exact a h
      · omega), if_neg (by
      rintro ⟨a, b⟩
      rcases h6 with h | ⟨h8, h9, h10⟩
      · rw [h] at a; cases a
      · omega), if_neg (by
      rintro ⟨a, b⟩
      rcases h7 with h | h
      · rw [h] at a; cases a
      · exact b h)]
  unfold Tst.any anyE
  by_cases hl : l = 5
  · subst hl
    by_cases h3 : checkF t.fd t.op t.nu t.tx t.ot 3 = 0
    · rw [if_neg (by rw [h3]; simp), h3]
    · rw [if_pos ⟨h3, h⟩]
  · have h3 := same 3 (mono _ h1 hl) (by rcases h2 with h | h; exact .inl h; exact .inr (mono _ h.1 hl))
    rw [if_neg (by rw [h3]; simp), h3]
theorem watch_ok {r : Rul} (h : ChkR r) : (r.wa = 0 ∧ r.pa = ⟨#[]⟩ ∧ r.pe = 0) ∨ ((r.wa = 1 ∨ r.wa = 2) ∧ r.li = 3 ∧ cleanB r.pa = true ∧ r.pa.size ≤ 128 ∧ 1 ≤ r.pe ∧ r.pe ≤ 15) := by
  have hw := h.wat
  unfold watchB at hw
  split at hw
  · rename_i h0
    simp only [decide_eq_true_eq] at hw
    exact .inl ⟨h0, bytes_ext (by
      have : r.pa.data.toList.length = 0 := by rw [Array.length_toList]; exact hw.1
      rw [List.eq_nil_of_length_eq_zero this]), hw.2⟩
  · split at hw
    · rename_i h1
      simp only [Bool.and_eq_true, decide_eq_true_eq] at hw
      exact .inr ⟨h1, hw.1.1, hw.1.2, hw.2.1, hw.2.2.1, hw.2.2.2⟩
    · cases hw
theorem parts_ok {r : Rul} (h : GoodR r) : ∀ p ∈ partsR r, p.ok := fun p hp => by
  have hc := checkR_zero h.ok
  rcases List.mem_append.1 hp with hp | hp
  · obtain ⟨t, ht, rfl⟩ := List.mem_map.1 hp
    exact ⟨any_of_chk (firstE_all hc.tst t ht), h.nums t ht⟩
  · unfold watchP at hp
    rcases watch_ok hc with ⟨h0, _⟩ | ⟨h1, _, _, h4, h5, h6⟩
    · rw [if_neg (by omega), if_neg (by omega)] at hp; cases hp
    · split at hp
      · simp at hp; rcases hp with rfl | rfl
        · exact h4
        · exact ⟨h5, h6⟩
      · split at hp
        · simp at hp; rcases hp with rfl | rfl
          · exact h4
          · exact ⟨h5, h6⟩
        · cases hp
theorem put_tests (r : Rul) : ∀ ts : List Tst, (ts.map Part.tst).foldl Rul.put r = { r with ts := r.ts ++ ts }
  | [] => by simp
  | t :: ts => by
    rw [List.map_cons, List.foldl_cons, put_tests]
    simp [Rul.put]
/-- The rule that the parts of a rule's text say. -/
theorem put_parts {r : Rul} (h : checkR r = 0) : (partsR r).foldl Rul.put (baseR r) = { r with ke := ⟨#[]⟩ } := by
  have hc := checkR_zero h
  unfold partsR
  rw [List.foldl_append, put_tests]
  unfold watchP baseR zeroR
  rcases watch_ok hc with ⟨h0, h1, h2⟩ | ⟨h1, _⟩
  · rw [if_neg (by omega), if_neg (by omega)]
    cases r; simp at *; simp [h0, h1, h2]
  · rcases h1 with h1 | h1
    · rw [if_pos h1]
      cases r; simp at *; simp [h1, Rul.put]
    · rw [if_neg (by omega), if_pos h1]
      cases r; simp at *; simp [h1, Rul.put]
end Go.Proofs.YtbbihfafkpniiaaGreatDoor
