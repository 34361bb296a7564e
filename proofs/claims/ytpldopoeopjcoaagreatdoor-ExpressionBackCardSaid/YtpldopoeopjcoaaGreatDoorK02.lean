/- Texts of one proof, laid together. -/
import Derived.Test.YtpldopoeopjcoaaGreatDoorK01
/- The name of a pair: proper of package value, name of the reference. -/
namespace Go.Proofs.YtpldopoeopjcoaaGreatDoor
open Go.RowKit
/-- A letter; a byte of a name. -/
def nma (c : UInt8) : Bool := decide (97 ≤ c.toNat) && decide (c.toNat ≤ 122)
def nmd (c : UInt8) : Bool := nma c || (decide (48 ≤ c.toNat) && decide (c.toNat ≤ 57)) || decide (c.toNat = 95)
def nameBv (l : List UInt8) : Bool := match l with
  | [] => false
  | a :: r => decide (l.length ≤ 16) && nma a && r.all nmd
theorem nma_nmd {c : UInt8} (h : nma c = true) : nmd c = true := by unfold nmd; rw [h]; rfl
theorem all_step (p : UInt8 → Bool) (s : ByteArray) (k : Nat) (h : k < s.size) (hp : (s.data.toList.take k).all p = true) (hc : p s[k] = true) : (s.data.toList.take (k + 1)).all p = true := by
  rw [take_snoc s k h, List.all_append, hp]; simp [hc]
theorem all_stop (p : UInt8 → Bool) (s : ByteArray) (k : Nat) (h : k < s.size) (hc : p s[k] = false) : s.data.toList.all p = false := by
  rw [← Bool.not_eq_true]; intro hall
  have := (List.all_eq_true.1 hall) s[k] (Array.mem_toList_iff.2 (Array.getElem_mem (xs := s.data) h))
  rw [hc] at this; cases this
theorem name_eq (s : ByteArray) (h0 : 0 < s.size) : nameBv s.data.toList = (decide (s.size ≤ 16) && nma s[0] && s.data.toList.all nmd) := by
  have hh : s.data.toList = s[0] :: s.data.toList.tail := by
    have : s.data.toList = s.data.toList.drop 0 := rfl
    rw [this, List.drop_eq_getElem_cons (by simpa using h0)]; rfl
  have hl : s.data.toList.length = s.size := Array.length_toList
  rw [hh] at hl ⊢
  unfold nameBv
  rw [hl, List.all_cons]
  cases hn : nma s[0]
  · simp [hn]
  · simp [hn, nma_nmd hn]
theorem nmd_false {c : UInt8} (h : ¬ nmd c = true) : ¬ (97 ≤ (c.toNat : Int) ∧ (c.toNat : Int) ≤ 122) ∧ ¬ (48 ≤ (c.toNat : Int) ∧ (c.toNat : Int) ≤ 57) ∧ (c.toNat : Int) ≠ 95 := by
  unfold nmd nma at h; simp at h; omega
theorem nmd_true {c : UInt8} (h : nmd c = true) : (97 ≤ (c.toNat : Int) ∧ (c.toNat : Int) ≤ 122) ∨ (48 ≤ (c.toNat : Int) ∧ (c.toNat : Int) ≤ 57) ∨ (c.toNat : Int) = 95 := by
  unfold nmd nma at h; simp at h; omega
theorem nma_true {c : UInt8} : nma c = true ↔ 97 ≤ (c.toNat : Int) ∧ (c.toNat : Int) ≤ 122 := by
  unfold nma; simp; omega
theorem nameB_empty (s : ByteArray) (h : s.size = 0) : nameBv s.data.toList = false := by
  have : s.data.toList = [] := List.eq_nil_of_length_eq_zero (Array.length_toList.trans h)
  rw [this]; rfl
theorem str_empty {s : ByteArray} (h : s.size = 0) : s.toList = [] := by
  rw [ByteArray.toList_eq]; exact List.eq_nil_of_length_eq_zero (Array.length_toList.trans h)
theorem str_nonemptyV {s : ByteArray} (h : 0 < s.size) : s.toList ≠ [] := fun e => by
  rw [ByteArray.toList_eq] at e
  have : s.data.toList.length = s.size := Array.length_toList
  rw [e] at this; simp at this; omega
end Go.Proofs.YtpldopoeopjcoaaGreatDoor
/- Check, of the program and of the reference, returns checkE. -/
namespace Go.Proofs.YtpldopoeopjcoaaGreatDoor
open Go.RowKit
/-- A pair as a value. -/
abbrev pairV (nm : ByteArray) (kd nu : Int) (tx : ByteArray) : Value := .agg #[.string nm, .int .i64 kd, .int .i64 nu, .string tx]
def checkE (nm : ByteArray) (kd nu : Int) (tx : ByteArray) : Int :=
  if nameBv nm.data.toList = false then 22 else if kd < 1 ∨ 3 < kd ∨ (kd ≠ 1 ∧ nu ≠ 0) ∨ (kd ≠ 2 ∧ tx.size ≠ 0) then 23 else if 640 < tx.size then 20 else 0
theorem checkE_name {nm : ByteArray} {kd nu : Int} {tx : ByteArray} (h : nameBv nm.data.toList = false) : checkE nm kd nu tx = 22 := if_pos h
theorem checkE_kind {nm : ByteArray} {kd nu : Int} {tx : ByteArray} (h : nameBv nm.data.toList = true) (k : kd < 1 ∨ 3 < kd ∨ (kd ≠ 1 ∧ nu ≠ 0) ∨ (kd ≠ 2 ∧ tx.size ≠ 0)) : checkE nm kd nu tx = 23 := by
  unfold checkE; rw [if_neg (by rw [h]; simp), if_pos k]
theorem checkE_long {nm : ByteArray} {kd nu : Int} {tx : ByteArray} (h : nameBv nm.data.toList = true) (k : ¬ (kd < 1 ∨ 3 < kd ∨ (kd ≠ 1 ∧ nu ≠ 0) ∨ (kd ≠ 2 ∧ tx.size ≠ 0))) (l : 640 < tx.size) : checkE nm kd nu tx = 20 := by
  unfold checkE; rw [if_neg (by rw [h]; simp), if_neg k, if_pos l]
theorem checkE_ok {nm : ByteArray} {kd nu : Int} {tx : ByteArray} (h : nameBv nm.data.toList = true) (k : ¬ (kd < 1 ∨ 3 < kd ∨ (kd ≠ 1 ∧ nu ≠ 0) ∨ (kd ≠ 2 ∧ tx.size ≠ 0))) (l : ¬ 640 < tx.size) : checkE nm kd nu tx = 0 := by
  unfold checkE; rw [if_neg (by rw [h]; simp), if_neg k, if_neg l]

end Go.Proofs.YtpldopoeopjcoaaGreatDoor
/- The source of numbers of package kauditmake: Text and Pair. -/
namespace Go.Proofs.YtpldopoeopjcoaaGreatDoor
open Go.RowKit
theorem heap_new_at {w : World} {o : Obj} {k : Nat} (h : w.heap.size = k) : (w.alloc o).heap[k]? = some o := h ▸ heap_alloc_new w o
/-- A block of the call's own that holds a pair. -/
def PBlk (w : World) (p : Nat) (nm : ByteArray) (kd nu : Int) (tx : ByteArray) : Prop := w.heap[p]? = some (.cells #[.string nm, .int .i64 kd, .int .i64 nu, .string tx] 58 (0, 0))
theorem PBlk.lt {w : World} {p : Nat} {nm : ByteArray} {kd nu : Int} {tx : ByteArray} (h : PBlk w p nm kd nu tx) : p < w.heap.size := (Array.getElem?_eq_some_iff.1 h).1
theorem PBlk.cells {w : World} {p : Nat} {nm : ByteArray} {kd nu : Int} {tx : ByteArray} (h : PBlk w p nm kd nu tx) :
    w.cell? ⟨p, 0, none⟩ = some (.string nm) ∧ w.cell? ⟨p, 1, none⟩ = some (.int .i64 kd) ∧ w.cell? ⟨p, 2, none⟩ = some (.int .i64 nu) ∧ w.cell? ⟨p, 3, none⟩ = some (.string tx) :=
  ⟨cell_of_row w p 0 _ _ _ h, cell_of_row w p 1 _ _ _ h, cell_of_row w p 2 _ _ _ h, cell_of_row w p 3 _ _ _ h⟩
theorem PBlk.frozen {w : World} {p : Nat} {nm : ByteArray} {kd nu : Int} {tx : ByteArray} (h : PBlk w p nm kd nu tx) : ∀ i, w.frozen? ⟨p, i, none⟩ = false := fun i => frozen_of_row w p i _ _ h
theorem PBlk.only {w w' : World} {p g : Nat} {nm : ByteArray} {kd nu : Int} {tx : ByteArray} (h : PBlk w p nm kd nu tx) (hg : w.grownBy w' (some g)) (hne : p ≠ g) : PBlk w' p nm kd nu tx :=
  (hg.block p h.lt (fun e => hne (by injection e))).trans h
theorem PBlk.alloc {w : World} {p : Nat} {nm : ByteArray} {kd nu : Int} {tx : ByteArray} (h : PBlk w p nm kd nu tx) (o : Obj) : PBlk (w.alloc o) p nm kd nu tx := (Below.heap_alloc w o p h.lt).trans h
theorem PBlk.set {w : World} {p : Nat} {nm : ByteArray} {kd nu : Int} {tx : ByteArray} (h : PBlk w p nm kd nu tx) (i : Nat) (u : Value) : (w.setCell ⟨p, i, none⟩ u).heap[p]? = some (.cells ((#[.string nm, .int .i64 kd, .int .i64 nu, .string tx] : Array Value).setIfInBounds i u) 58 (0, 0)) := heap_setCell_same w p i _ _ u h
theorem PBlk.far {w : World} {p : Nat} {nm : ByteArray} {kd nu : Int} {tx : ByteArray} (h : PBlk w p nm kd nu tx) {q : Addr} (hq : p ≠ q.block) (u : Value) : PBlk (w.setCell q u) p nm kd nu tx := (Below.heap_setCell w q u p hq).trans h
theorem four_set {w : World} {r : Nat} {nm0 : ByteArray} {kd0 nu0 : Int} {tx0 : ByteArray} (h : PBlk w r nm0 kd0 nu0 tx0) (nm : ByteArray) (kd nu : Int) (tx : ByteArray) :
    PBlk ((((w.setCell ⟨r, 0, none⟩ (.string nm)).setCell ⟨r, 1, none⟩ (.int .i64 kd)).setCell ⟨r, 2, none⟩ (.int .i64 nu)).setCell ⟨r, 3, none⟩ (.string tx)) r nm kd nu tx := by
  have h1 := h.set 0 (.string nm)
  have h2 := heap_setCell_same _ r 1 _ _ (.int .i64 kd) h1
  have h3 := heap_setCell_same _ r 2 _ _ (.int .i64 nu) h2
  exact heap_setCell_same _ r 3 _ _ (.string tx) h3
theorem four_only {a w : World} {g r : Nat} (h : a.grownBy w (some g)) (hr : r = g ∨ a.heap.size ≤ r) (nm : ByteArray) (kd nu : Int) (tx : ByteArray) :
    a.grownBy ((((w.setCell ⟨r, 0, none⟩ (.string nm)).setCell ⟨r, 1, none⟩ (.int .i64 kd)).setCell ⟨r, 2, none⟩ (.int .i64 nu)).setCell ⟨r, 3, none⟩ (.string tx)) (some g) :=
  only_setCell (p := ⟨r, 3, none⟩) (only_setCell (p := ⟨r, 2, none⟩) (only_setCell (p := ⟨r, 1, none⟩) (only_setCell (p := ⟨r, 0, none⟩) h hr _) hr _) hr _) hr _
abbrev pairO' (nm : ByteArray) (kd nu : Int) (tx : ByteArray) : Obj := .cells #[.string nm, .int .i64 kd, .int .i64 nu, .string tx] 58
theorem pick7 (z : Int) (h0 : 0 ≤ z) (h1 : z < 1000) : intsIn #[.int .i64 0, .int .i64 1, .int .i64 (-1), .int .i64 42, .int .i64 9223372036854775807, .int .i64 (-9223372036854775808), .int .i64 z] (-9223372036854775808) 9223372036854775807 = true := by
  unfold intsIn; simp; omega
end Go.Proofs.YtpldopoeopjcoaaGreatDoor
/- Pairs and records as values and in memory. -/
namespace Go.Proofs.YtpldopoeopjcoaaGreatDoor
open Go.RowKit
structure Pr where
  nm : ByteArray
  kd : Int
  nu : Int
  tx : ByteArray
structure Rc where
  ty : Int
  ti : Int
  se : Int
  ps : List Pr
abbrev prV (p : Pr) : Value := pairV p.nm p.kd p.nu p.tx
abbrev rcC (r : Rc) (v : Value) : Array Value := #[.int .i64 r.ty, .int .i64 r.ti, .int .i64 r.se, v]
abbrev rcV (r : Rc) (v : Value) : Value := .agg (rcC r v)
theorem Tryz.infoPr : (Tryz.prog.info? 58).map (fun i => (i.zero, i.size, i.bytes)) = some (some (.agg #[.string ⟨#[]⟩, .int .i64 0, .int .i64 0, .string ⟨#[]⟩]), 4, 48) := by kernel_rfl
theorem Tryz.infoRc : (Tryz.prog.info? 63).map (fun i => (i.zero, i.size, i.bytes)) = some (some (.agg #[.int .i64 0, .int .i64 0, .int .i64 0, .slice none 0 0]), 4, 48) := by kernel_rfl
/-- Pairs. -/
def EP : El Pr where
  C p := [.string p.nm, .int .i64 p.kd, .int .i64 p.nu, .string p.tx]
  e := 58
  sl := 61
  sz := 4
  bs := 48
  len _ := rfl
  one p u hu := by simp at hu; rcases hu with rfl | rfl | rfl | rfl <;> rfl
  pos := by omega
  small := by omega
  hu := Tryz.underlying61
  info := by
    obtain ⟨i0, h1, h2, h3, h4⟩ := info_parts Tryz.infoPr
    exact ⟨i0, _, h1, h2, h3, h4, rfl⟩
/-- A record with its slice of pairs. -/
structure Rm where
  r : Rc
  A : Option Addr
  c : Nat
abbrev Rm.sl (x : Rm) : Value := .slice x.A x.r.ps.length x.c
/-- Records, each with its slice of pairs. -/
def ER : El Rm where
  C x := [.int .i64 x.r.ty, .int .i64 x.r.ti, .int .i64 x.r.se, .slice x.A x.r.ps.length x.c]
  e := 63
  sl := 37
  sz := 4
  bs := 48
  len _ := rfl
  one x u hu := by simp at hu; rcases hu with rfl | rfl | rfl | rfl <;> rfl
  pos := by omega
  small := by omega
  hu := Tryz.underlying37
  info := by
    obtain ⟨i0, h1, h2, h3, h4⟩ := info_parts Tryz.infoRc
    exact ⟨i0, _, h1, h2, h3, h4, rfl⟩
theorem rc_sz (r : Rc) (v : Value) : (Tryz.prog.info? 63).map (·.size) = some (rcC r v).size := by show _ = some 4; kernel_rfl
def zeroRc : Rc := ⟨0, 0, 0, []⟩
abbrev RcB (w : World) (g : Nat) (r : Rc) (v : Value) : Prop := Blk w g 63 (rcC r v)
end Go.Proofs.YtpldopoeopjcoaaGreatDoor
/- Small functions of package kauditmill. -/
namespace Go.Proofs.YtpldopoeopjcoaaGreatDoor
open Go.RowKit
theorem pr_ret4 {fn : Func} (h : fn.results = #[.cell 4 58]) (tmps : Array Value) (w : World) (g : Nat) (p : Pr) (hp : tmps.getD 4 undef = .pointer (some ⟨g, 0, none⟩)) (hg : Blk w g 58 #[.string p.nm, .int .i64 p.kd, .int .i64 p.nu, .string p.tx]) :
    (results fn tmps).run Tryz.prog w = .ok (prV p) w :=
  results_cell_row h tmps w g _ #[.string p.nm, .int .i64 p.kd, .int .i64 p.nu, .string p.tx] (0, 0) _ hp hg Tryz.underlying58 rfl (by show _ = some 4; kernel_rfl)
theorem mnum (s : ByteArray) (n : Int) (w : World) : Calls Tryz.prog 26 #[.string s, .int .i64 n] w fun e w' => e = .returned (prV ⟨s, 1, n, ⟨#[]⟩⟩) ∧ Below w.heap.size w w' := by
  go_enter Tryz.func26, Tryz.ntmps26
  go_wp2_with fail
  refine bodyPost_ret (pr_ret4 (fn := Tryz.f26) rfl _ _ w.heap.size ⟨s, 1, n, ⟨#[]⟩⟩ rfl (Blk.new w _ _)) rfl ?_
  exact ⟨rfl, (Below.refl _ _).alloc (Nat.le_refl _) _⟩
theorem mstr (s t : ByteArray) (w : World) : Calls Tryz.prog 27 #[.string s, .string t] w fun e w' => e = .returned (prV ⟨s, 2, 0, t⟩) ∧ Below w.heap.size w w' := by
  go_enter Tryz.func27, Tryz.ntmps27
  go_wp2_with fail
  refine bodyPost_ret (pr_ret4 (fn := Tryz.f27) rfl _ _ w.heap.size ⟨s, 2, 0, t⟩ rfl (Blk.new w _ _)) rfl ?_
  exact ⟨rfl, (Below.refl _ _).alloc (Nat.le_refl _) _⟩
theorem mnull (v : Value) (s : ByteArray) (w : World) : Calls Tryz.prog 50 #[v, .string s] w fun e w' => e = .returned (prV ⟨s, 3, 0, ⟨#[]⟩⟩) ∧ Below w.heap.size w w' := by
  go_enter Tryz.func50, Tryz.ntmps50
  go_wp2_with fail
  refine bodyPost_ret (pr_ret4 (fn := Tryz.f50) rfl _ _ w.heap.size ⟨s, 3, 0, ⟨#[]⟩⟩ rfl (Blk.new w _ _)) rfl ?_
  exact ⟨rfl, (Below.refl _ _).alloc (Nat.le_refl _) _⟩
theorem rec_ret6 {fn : Func} (h : fn.results = #[.cell 6 63]) (tmps : Array Value) (w : World) (g : Nat) (r : Rc) (v : Value) (hp : tmps.getD 6 undef = .pointer (some ⟨g, 0, none⟩)) (hg : RcB w g r v) :
    (results fn tmps).run Tryz.prog w = .ok (rcV r v) w :=
  results_cell_row h tmps w g _ (rcC r v) (0, 0) _ hp hg Tryz.underlying63 rfl (rc_sz r v)
theorem mrec (t ti n : Int) (w : World) : Calls Tryz.prog 31 #[.int .i64 t, .int .i64 ti, .int .i64 n] w fun e w' => e = .returned (rcV ⟨t, ti, n, []⟩ (.slice none 0 0)) ∧ Below w.heap.size w w' := by
  go_enter Tryz.func31, Tryz.ntmps31
  go_wp2_with fail
  refine bodyPost_ret (rec_ret6 (fn := Tryz.f31) rfl _ _ w.heap.size ⟨t, ti, n, []⟩ (.slice none 0 0) rfl (Blk.new w _ _)) rfl ?_
  exact ⟨rfl, (Below.refl _ _).alloc (Nat.le_refl _) _⟩
abbrev evC (b n t : Int) (v : Value) (c : Bool) : Array Value := #[.int .i64 b, .int .i64 n, .int .i64 t, v, .bool c]
theorem ev_sz (b n t : Int) (v : Value) (c : Bool) : (Tryz.prog.info? 39).map (·.size) = some (evC b n t v c).size := by show _ = some 5; kernel_rfl
theorem ev_ret {k : Nat} {fn : Func} (h : fn.results = #[.cell k 39]) (tmps : Array Value) (w : World) (g : Nat) (b n t : Int) (v : Value) (c : Bool) (hp : tmps.getD k undef = .pointer (some ⟨g, 0, none⟩)) (hg : Blk w g 39 (evC b n t v c)) :
    (results fn tmps).run Tryz.prog w = .ok (.agg (evC b n t v c)) w :=
  results_cell_row h tmps w g _ (evC b n t v c) (0, 0) _ hp hg Tryz.underlying39 rfl (ev_sz _ _ _ _ _)
theorem mevent (b n t : Int) (w : World) : Calls Tryz.prog 28 #[.int .i64 b, .int .i64 n, .int .i64 t] w fun e w' => e = .returned (.agg (evC b n t (.slice none 0 0) false)) ∧ Below w.heap.size w w' := by
  go_enter Tryz.func28, Tryz.ntmps28
  go_wp2_with fail
  refine bodyPost_ret (ev_ret (k := 6) (fn := Tryz.f28) rfl _ _ w.heap.size b n t (.slice none 0 0) false rfl (Blk.new w _ _)) rfl ?_
  exact ⟨rfl, (Below.refl _ _).alloc (Nat.le_refl _) _⟩
theorem ca_new (w : World) (A : Option Addr) (n c : Nat) (m : Nat) (hm : m ≤ 1000000) (hnc : n ≤ c) (hn : (c : Int) ≤ 9223372036854775807)
    (hl : ∀ k, k < n → ∃ (ad : Addr) (z : Int), A = some ad ∧ ad.block < w.heap.size ∧ w.cell? (ad.add k) = some (.int .u8 z) ∧ 0 ≤ z ∧ z ≤ 255) :
    Calls Tryz.prog 6 #[.slice A n c, .int .i64 m] w fun e w' => e = .returned (.pointer (some ⟨w.heap.size, 0, none⟩)) ∧ CaOk w' w.heap.size w.heap.size ∧ Below w.heap.size w w' := by
  have HL := Lib.hid hl
  have HN := Lib.hid hn
  have HM := Lib.hid hm
  clear hl hn hm
  by_cases h : m < n
  · have h1 : (m : Int) < (n : Int) := by omega
    have h2 : m ≤ c := by omega
    have h3 : (0 : Int) ≤ (m : Int) := by omega
    have h4 : (m : Int) ≤ (c : Int) := by omega
    go_enter Tryz.func6, Tryz.ntmps6
    go_wp2
    go_ret
    refine ⟨rfl, ⟨Nat.le_refl _, A, m, c, 0, heap_alloc_new w _, by omega, by omega, HM.out, fun k hk => ?_⟩, (Below.refl _ _).alloc (Nat.le_refl _) _⟩
    obtain ⟨ad, z, e, hb, hc, hz⟩ := HL.out k (by omega)
    exact ⟨ad, z, e, hb, (World.cell?_of_block (by rw [block_add]; exact Below.heap_alloc w _ _ hb)).trans hc, hz⟩
  · have h1 : ¬ (m : Int) < (n : Int) := by omega
    go_enter Tryz.func6, Tryz.ntmps6
    go_wp2
    go_ret
    refine ⟨rfl, ⟨Nat.le_refl _, A, n, c, 0, heap_alloc_new w _, by omega, by omega, by have := HM.out; omega, fun k hk => ?_⟩, (Below.refl _ _).alloc (Nat.le_refl _) _⟩
    obtain ⟨ad, z, e, hb, hc, hz⟩ := HL.out k hk
    exact ⟨ad, z, e, hb, (World.cell?_of_block (by rw [block_add]; exact Below.heap_alloc w _ _ hb)).trans hc, hz⟩
def CIPost (w : World) (base g : Nat) (e : Ending) (w' : World) : Prop := ∃ x : Int, e = .returned (.int .i64 x) ∧ CaOk w' base g ∧ w.grownBy w' (some g)
def CTPost (w : World) (base g : Nat) (e : Ending) (w' : World) : Prop := ∃ x : ByteArray, e = .returned (.string x) ∧ x.size ≤ 20 ∧ CaOk w' base g ∧ w.grownBy w' (some g)
theorem ca_ids (w : World) (base g : Nat) (h : CaOk w base g) : Calls Tryz.prog 33 #[.pointer (some ⟨g, 0, none⟩)] w (CIPost w base g) := by
  have H := Lib.hid h
  have hlt := ca_lt h
  clear h
  go_enter Tryz.func33, Tryz.ntmps33
  go_wp2_with fail
  refine (ca_pick _ base g w.heap.size 5 [0, 0, 7, 8, 4294967295] 3 (H.out.alloc _) (Blk.new w _ _) (by omega) rfl (by omega) (by omega)).mono ?_
  rintro e w1 ⟨x, rfl, hx, hs, hg⟩
  have HS := Lib.hid hs
  have HG := Lib.hid ((only_alloc (World.grownBy.refl w (some g)) (.cells #[.int .i64 0, .int .i64 0, .int .i64 7, .int .i64 8, .int .i64 4294967295] 3)).trans hg)
  clear hs hg hx
  go_wp2_with fail
  go_ret
  exact ⟨_, rfl, HS.out, HG.out⟩
theorem ca_session (w : World) (base g : Nat) (h : CaOk w base g) : Calls Tryz.prog 49 #[.pointer (some ⟨g, 0, none⟩)] w (CIPost w base g) := by
  have H := Lib.hid h
  have hlt := ca_lt h
  clear h
  go_enter Tryz.func49, Tryz.ntmps49
  go_wp2_with fail
  refine (ca_pick _ base g w.heap.size 5 [1, 2, 4294967295, 1, 3] 3 (H.out.alloc _) (Blk.new w _ _) (by omega) rfl (by omega) (by omega)).mono ?_
  rintro e w1 ⟨x, rfl, hx, hs, hg⟩
  have HS := Lib.hid hs
  have HG := Lib.hid ((only_alloc (World.grownBy.refl w (some g)) (.cells #[.int .i64 1, .int .i64 2, .int .i64 4294967295, .int .i64 1, .int .i64 3] 3)).trans hg)
  clear hs hg hx
  go_wp2_with fail
  go_ret
  exact ⟨_, rfl, HS.out, HG.out⟩
theorem ca_call (w : World) (base g : Nat) (h : CaOk w base g) : Calls Tryz.prog 48 #[.pointer (some ⟨g, 0, none⟩)] w (CTPost w base g) := by
  have H := Lib.hid h
  have hlt := ca_lt h
  clear h
  go_enter Tryz.func48, Tryz.ntmps48
  go_wp2_with fail
  refine (ca_word _ base g w.heap.size 7 [⟨#[109, 107, 100, 105, 114]⟩, ⟨#[102, 111, 114, 107]⟩, ⟨#[101, 120, 105, 116]⟩, ⟨#[108, 111, 103, 105, 110]⟩, ⟨#[107, 105, 108, 108]⟩, ⟨#[111, 112, 101, 110]⟩, ⟨#[117, 110, 108, 105, 110, 107]⟩] 9 (H.out.alloc _) (Blk.new w _ _) (by omega) rfl (by omega) (by omega)).mono ?_
  rintro e w1 ⟨x, rfl, hx, hs, hg⟩
  have hsz : x.size ≤ 20 := by
    have := List.all_eq_true.1 (show ([⟨#[109, 107, 100, 105, 114]⟩, ⟨#[102, 111, 114, 107]⟩, ⟨#[101, 120, 105, 116]⟩, ⟨#[108, 111, 103, 105, 110]⟩, ⟨#[107, 105, 108, 108]⟩, ⟨#[111, 112, 101, 110]⟩, ⟨#[117, 110, 108, 105, 110, 107]⟩] : List ByteArray).all (fun x => decide (x.size ≤ 20)) = true by decide) x hx
    simpa using this
  have HS := Lib.hid hs
  have HG := Lib.hid ((only_alloc (World.grownBy.refl w (some g)) (.cells #[.string ⟨#[109, 107, 100, 105, 114]⟩, .string ⟨#[102, 111, 114, 107]⟩, .string ⟨#[101, 120, 105, 116]⟩, .string ⟨#[108, 111, 103, 105, 110]⟩, .string ⟨#[107, 105, 108, 108]⟩, .string ⟨#[111, 112, 101, 110]⟩, .string ⟨#[117, 110, 108, 105, 110, 107]⟩] 9)).trans hg)
  clear hs hg hx
  go_wp2_with fail
  go_ret
  exact ⟨_, rfl, hsz, HS.out, HG.out⟩
theorem ca_text (w : World) (base g : Nat) (h : CaOk w base g) : Calls Tryz.prog 32 #[.pointer (some ⟨g, 0, none⟩)] w (CTPost w base g) := by
  have H := Lib.hid (h.alloc (.cells #[.string ⟨#[]⟩, .string ⟨#[97]⟩, .string ⟨#[97, 110, 110]⟩, .string ⟨#[47, 97, 47, 98]⟩, .string ⟨#[110, 111]⟩, .string ⟨#[121, 101, 115]⟩, .string ⟨#[97, 32, 98]⟩, .string ⟨#[120, 54, 102]⟩, .string ⟨#[0]⟩, .string ⟨#[109, 107, 100, 105, 114]⟩] 9))
  have HG0 := Lib.hid (only_alloc (World.grownBy.refl w (some g)) (.cells #[.string ⟨#[]⟩, .string ⟨#[97]⟩, .string ⟨#[97, 110, 110]⟩, .string ⟨#[47, 97, 47, 98]⟩, .string ⟨#[110, 111]⟩, .string ⟨#[121, 101, 115]⟩, .string ⟨#[97, 32, 98]⟩, .string ⟨#[120, 54, 102]⟩, .string ⟨#[0]⟩, .string ⟨#[109, 107, 100, 105, 114]⟩] 9))
  have HB := Lib.hid (Blk.new w #[.string ⟨#[]⟩, .string ⟨#[97]⟩, .string ⟨#[97, 110, 110]⟩, .string ⟨#[47, 97, 47, 98]⟩, .string ⟨#[110, 111]⟩, .string ⟨#[121, 101, 115]⟩, .string ⟨#[97, 32, 98]⟩, .string ⟨#[120, 54, 102]⟩, .string ⟨#[0]⟩, .string ⟨#[109, 107, 100, 105, 114]⟩] 9)
  have hlt := ca_lt h
  clear h
  go_enter Tryz.func32, Tryz.ntmps32
  go_wp2_with fail
  refine (ca_int _ base g 10 H.out (by omega) (by omega)).mono ?_
  rintro e w1 ⟨x, rfl, hx0, hx1, hs, hg⟩
  have HS := Lib.hid hs
  have HG := Lib.hid (HG0.out.trans hg)
  obtain ⟨k, rfl⟩ := Int.eq_ofNat_of_zero_le hx0
  have hk : k < 10 := by omega
  obtain ⟨y, hy, hym⟩ := strsLe_at (cs := #[.string ⟨#[]⟩, .string ⟨#[97]⟩, .string ⟨#[97, 110, 110]⟩, .string ⟨#[47, 97, 47, 98]⟩, .string ⟨#[110, 111]⟩, .string ⟨#[121, 101, 115]⟩, .string ⟨#[97, 32, 98]⟩, .string ⟨#[120, 54, 102]⟩, .string ⟨#[0]⟩, .string ⟨#[109, 107, 100, 105, 114]⟩]) (m := 20) (by decide) k hk
  have hc := ((HB.out.grown hg (fun e => by injection e with e; omega)).cell k).trans hy
  clear hs hg hy
  go_wp2_with fail
  go_ret
  exact ⟨_, rfl, hym, HS.out, HG.out⟩
theorem ca_process (w : World) (base g : Nat) (h : CaOk w base g) : Calls Tryz.prog 46 #[.pointer (some ⟨g, 0, none⟩)] w (CIPost w base g) := by
  have H := Lib.hid h
  clear h
  go_enter Tryz.func46, Tryz.ntmps46
  go_wp2_with fail
  refine (ca_int _ base g 5 H.out (by omega) (by omega)).mono ?_
  rintro e w1 ⟨x, rfl, hx0, hx1, hs, hg⟩
  have HS := Lib.hid hs
  clear hs
  go_wp2_with fail
  go_ret
  exact ⟨_, rfl, HS.out, hg⟩
def COPost (w : World) (base g : Nat) (e : Ending) (w' : World) : Prop := ∃ (x : ByteArray) (z : Int), e = .returned (.tuple #[.string x, .int .i64 z]) ∧ x.size ≤ 20 ∧ CaOk w' base g ∧ w.grownBy w' (some g)
theorem ca_outcome (w : World) (base g : Nat) (h : CaOk w base g) : Calls Tryz.prog 47 #[.pointer (some ⟨g, 0, none⟩)] w (COPost w base g) := by
  have H := Lib.hid h
  have hlt := ca_lt h
  clear h
  go_enter Tryz.func47, Tryz.ntmps47
  go_wp2_with fail
  refine (ca_word _ base g w.heap.size 3 [⟨#[121, 101, 115]⟩, ⟨#[121, 101, 115]⟩, ⟨#[110, 111]⟩] 9 (H.out.alloc _) (Blk.new w _ _) (by omega) rfl (by omega) (by omega)).mono ?_
  rintro e w1 ⟨x, rfl, hx, hs, hg⟩
  have hsz : x.size ≤ 20 := by
    have := List.all_eq_true.1 (show ([⟨#[121, 101, 115]⟩, ⟨#[121, 101, 115]⟩, ⟨#[110, 111]⟩] : List ByteArray).all (fun x => decide (x.size ≤ 20)) = true by decide) x hx
    simpa using this
  have HS := Lib.hid hs
  have hlt1 := ca_lt hs
  have HG := Lib.hid ((only_alloc (World.grownBy.refl w (some g)) (.cells #[.string ⟨#[121, 101, 115]⟩, .string ⟨#[121, 101, 115]⟩, .string ⟨#[110, 111]⟩] 9)).trans hg)
  clear hs hg hx
  go_wp2_with fail
  refine (ca_pick _ base g w1.heap.size 6 [0, 2, 3, 6, (-2), (-13)] 3 (HS.out.alloc _) (Blk.new w1 _ _) (by omega) rfl (by omega) (by omega)).mono ?_
  rintro e w2 ⟨z, rfl, hx, hs, hg⟩
  have HS2 := Lib.hid hs
  have HG2 := Lib.hid ((only_alloc HG.out (.cells #[.int .i64 0, .int .i64 2, .int .i64 3, .int .i64 6, .int .i64 (-2), .int .i64 (-13)] 3)).trans hg)
  clear hs hg hx
  go_wp2_with fail
  go_ret2
  exact ⟨_, _, rfl, hsz, HS2.out, HG2.out⟩
end Go.Proofs.YtpldopoeopjcoaaGreatDoor
