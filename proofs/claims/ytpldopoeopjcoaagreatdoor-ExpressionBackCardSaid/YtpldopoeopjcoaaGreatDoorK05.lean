/- Texts of one proof, laid together. -/
import Derived.Test.YtpldopoeopjcoaaGreatDoorK04
import Derived.Deep.QuietTactic
import Derived.BigQuiet
import Derived.Test.YtpldopoeopjcoaaGreatDoorK01
import Derived.RegionTactic
import Derived.IntWalk
import Derived.Deep.RegionHeld3
import Derived.Deep.AppendLies
/- Expressions, ls a tree and in memory. -/
namespace Go.Proofs.YtpldopoeopjcoaaGreatDoor
open Go.RowKit
inductive Ex where
  | mk (op cm kd nu : Int) (nm tx : ByteArray) (ls : List Ex) : Ex
/-- An expression's cells. -/
structure Xe where
  op : Int
  cm : Int
  kd : Int
  nu : Int
  nm : ByteArray
  tx : ByteArray
  A : Option Addr
  n : Nat
  c : Nat
abbrev xC (m : Xe) : Array Value := #[.int .i64 m.op, .int .i64 m.cm, .int .i64 m.kd, .int .i64 m.nu, .string m.nm, .string m.tx, .slice m.A m.n m.c]
theorem Tryz.infoXe : (Tryz.prog.info? 25).map (fun i => (i.zero, i.size, i.bytes)) = some (some (.agg #[.int .i64 0, .int .i64 0, .int .i64 0, .int .i64 0, .string ⟨#[]⟩, .string ⟨#[]⟩, .slice none 0 0]), 7, 88) := by kernel_rfl
def EX : El Xe where
  C m := [.int .i64 m.op, .int .i64 m.cm, .int .i64 m.kd, .int .i64 m.nu, .string m.nm, .string m.tx, .slice m.A m.n m.c]
  e := 25
  sl := 23
  sz := 7
  bs := 88
  len _ := rfl
  one x u hu := by simp at hu; rcases hu with rfl | rfl | rfl | rfl | rfl | rfl | rfl <;> rfl
  pos := by omega
  small := by omega
  hu := Tryz.underlying23
  info := by
    obtain ⟨i0, h1, h2, h3, h4⟩ := info_parts Tryz.infoXe
    exact ⟨i0, _, h1, h2, h3, h4, rfl⟩
theorem x_sz (m : Xe) : (Tryz.prog.info? 25).map (·.size) = some (xC m).size := by show _ = some 7; kernel_rfl
theorem x_one (m : Xe) : (xC m).all (·.oneCell') = true := by simp [Value.oneCell']
/-- The cells m hold the expression x; its parts lie below block B. -/
inductive ExV (w : World) (B : Nat) : Ex → Xe → Prop
  | mk (op cm kd nu : Int) (nm tx : ByteArray) (ls : List Ex) (A : Option Addr) (c : Nat) (ms : List Xe) (hl : ms.length = ls.length) (hn : ls.length ≤ 1000000) (hs : nm.size ≤ maxLen ∧ tx.size ≤ maxLen) (hat : AtE EX w B A ms)
    (ih : ∀ k (h1 : k < ls.length) (h2 : k < ms.length), ExV w B (ls[k]) (ms[k])) : ExV w B (.mk op cm kd nu nm tx ls) ⟨op, cm, kd, nu, nm, tx, A, ls.length, c⟩
theorem ExV.keep {w w' : World} {B : Nat} {x : Ex} {m : Xe} (h : ExV w B x m) (hk : ∀ i, i < B → w'.heap[i]? = w.heap[i]?) : ExV w' B x m := by
  induction h with
  | mk op cm kd nu nm tx ls A c ms hl hn hs hat ih ihh =>
    refine ExV.mk op cm kd nu nm tx ls A c ms hl hn hs (fun k hkl => ?_) ihh
    obtain ⟨ad, e, hb, hc⟩ := hat k hkl
    exact ⟨ad, e, hb, fun j hj => (World.cell?_of_block (by rw [addE_block, addE_block]; exact hk _ hb)).trans (hc j hj)⟩
theorem ExV.more {w : World} {B B' : Nat} {x : Ex} {m : Xe} (h : ExV w B x m) (hB : B ≤ B') : ExV w B' x m := by
  induction h with
  | mk op cm kd nu nm tx ls A c ms hl hn hs hat ih ihh => exact ExV.mk op cm kd nu nm tx ls A c ms hl hn hs (hat.more hB) ihh
theorem x_cells {w : World} {a : Addr} {m : Xe} (h : ∀ j, j < 7 → w.cell? (a.add j) = (EX.C m)[j]?) :
    w.cell? a = some (.int .i64 m.op) ∧ w.cell? ⟨a.block, a.off + 1, none⟩ = some (.int .i64 m.cm) ∧ w.cell? ⟨a.block, a.off + 2, none⟩ = some (.int .i64 m.kd) ∧ w.cell? ⟨a.block, a.off + 3, none⟩ = some (.int .i64 m.nu) ∧ w.cell? ⟨a.block, a.off + 4, none⟩ = some (.string m.nm) ∧ w.cell? ⟨a.block, a.off + 5, none⟩ = some (.string m.tx) ∧ w.cell? ⟨a.block, a.off + 6, none⟩ = some (.slice m.A m.n m.c) :=
  ⟨h 0 (by omega), h 1 (by omega), h 2 (by omega), h 3 (by omega), h 4 (by omega), h 5 (by omega), h 6 (by omega)⟩
/-- What small says of expressions, and what it leaves of the number of nodes. -/
def smallL : List Ex → Int → Int → Bool × Int
  | [], _, left => (true, left)
  | (.mk _ _ _ _ _ _ ls) :: r, lv, left =>
    if left - 1 < 0 ∨ lv < 1 then (false, left - 1) else
      if (smallL ls (lv - 1) (left - 1)).1 = true then smallL r lv (smallL ls (lv - 1) (left - 1)).2 else (false, (smallL ls (lv - 1) (left - 1)).2)
termination_by l => SizeOf.sizeOf l
decreasing_by all_goals (simp_wf; omega)
def smallX (x : Ex) (lv left : Int) : Bool × Int := smallL [x] lv left
theorem smallX_eq (op cm kd nu : Int) (nm tx : ByteArray) (ls : List Ex) (lv left : Int) : smallX (.mk op cm kd nu nm tx ls) lv left = if left - 1 < 0 ∨ lv < 1 then (false, left - 1) else smallL ls (lv - 1) (left - 1) := by
  unfold smallX
  rw [smallL]
  split
  · rfl
  · cases h : smallL ls (lv - 1) (left - 1) with
    | mk b l2 => cases b <;> simp [smallL]
theorem smallL_cons (x : Ex) (r : List Ex) (lv left : Int) : smallL (x :: r) lv left = if (smallX x lv left).1 = true then smallL r lv (smallX x lv left).2 else (false, (smallX x lv left).2) := by
  cases x with
  | mk op cm kd nu nm tx ls =>
    rw [smallX_eq, smallL]
    split
    · simp
    · rfl
theorem size_at {ls : List Ex} {op cm kd nu : Int} {nm tx : ByteArray} {k : Nat} (h : k < ls.length) : SizeOf.sizeOf ls[k] < SizeOf.sizeOf (Ex.mk op cm kd nu nm tx ls) := by
  have := List.sizeOf_lt_of_mem (List.getElem_mem h)
  simp only [Ex.mk.sizeOf_spec]
  omega
end Go.Proofs.YtpldopoeopjcoaaGreatDoor
/- The tokens of the parser of package expression: takes. -/
namespace Go.Proofs.YtpldopoeopjcoaaGreatDoor
open Go.RowKit
structure Tk where
  kd : Int
  tx : ByteArray
  nu : Int
theorem Tryz.infoTk : (Tryz.prog.info? 100).map (fun i => (i.zero, i.size, i.bytes)) = some (some (.agg #[.int .i64 0, .string ⟨#[]⟩, .int .i64 0]), 3, 32) := by kernel_rfl
def ETk : El Tk where
  C t := [.int .i64 t.kd, .string t.tx, .int .i64 t.nu]
  e := 100
  sl := 76
  sz := 3
  bs := 32
  len _ := rfl
  one x u hu := by simp at hu; rcases hu with rfl | rfl | rfl <;> rfl
  pos := by omega
  small := by omega
  hu := Tryz.underlying76
  info := by
    obtain ⟨i0, h1, h2, h3, h4⟩ := info_parts Tryz.infoTk
    exact ⟨i0, _, h1, h2, h3, h4, rfl⟩
/-- A parser in block g that has the tokens ts left. -/
def TkS (w : World) (g : Nat) (ts : List Tk) : Prop := ∃ (A : Option Addr) (c : Nat), Blk w g 79 #[.slice A ts.length c] ∧ ts.length ≤ c ∧ c ≤ maxLen ∧ AtE ETk w g A ts
theorem TkS.lt {w : World} {g : Nat} {ts : List Tk} (h : TkS w g ts) : g < w.heap.size := by
  obtain ⟨A, c, hb, _⟩ := h
  exact hb.lt
theorem TkS.below {w w' : World} {g : Nat} {ts : List Tk} (h : TkS w g ts) (hb : Below w.heap.size w w') : TkS w' g ts := by
  obtain ⟨A, c, h1, h2, h3, h4⟩ := h
  exact ⟨A, c, Blk.below h1 hb, h2, h3, h4.keep hb (Nat.le_of_lt h1.lt)⟩
theorem add_add (a : Addr) (n m : Nat) : (a.add n).add m = a.add (n + m) := by
  unfold Addr.add
  by_cases h1 : n = 0
  · subst h1; simp
  · by_cases h2 : m = 0
    · subst h2; simp [h1]
    · simp [h1, h2, Nat.add_assoc]
theorem ats_tail {w : World} {B : Nat} {ad : Addr} {t : Tk} {r : List Tk} (h : AtE ETk w B (some ad) (t :: r)) : AtE ETk w B (some (ad.add 3)) r := fun k hk => by
  obtain ⟨a', e, hb, hc⟩ := h (k + 1) (by simp; omega)
  injection e with e
  subst e
  refine ⟨_, rfl, by rw [addE_block]; exact hb, fun j hj => ?_⟩
  have := hc j hj
  simp only [List.getElem_cons_succ] at this
  rw [← this, add_add, add_add, add_add]
  congr 2
  show 3 + (k * 3 + j) = (k + 1) * 3 + j
  omega
theorem t_cells {w : World} {a : Addr} {t : Tk} (h : ∀ j, j < 3 → w.cell? (a.add j) = (ETk.C t)[j]?) :
    w.cell? a = some (.int .i64 t.kd) ∧ w.cell? ⟨a.block, a.off + 1, none⟩ = some (.string t.tx) ∧ w.cell? ⟨a.block, a.off + 2, none⟩ = some (.int .i64 t.nu) := ⟨h 0 (by omega), h 1 (by omega), h 2 (by omega)⟩
def hitB (ts : List Tk) (kd : Int) (tx : ByteArray) : Bool := match ts with
  | [] => false
  | t :: _ => t.kd == kd && t.tx.toList == tx.toList
/-- What takes leaves. -/
def leftT (ts : List Tk) (kd : Int) (tx : ByteArray) : List Tk := if hitB ts kd tx = true then ts.tail else ts
theorem leftT_no {ts : List Tk} {kd : Int} {tx : ByteArray} (h : hitB ts kd tx = false) : leftT ts kd tx = ts := by unfold leftT; rw [h]; rfl
theorem leftT_yes {ts : List Tk} {kd : Int} {tx : ByteArray} (h : hitB ts kd tx = true) : leftT ts kd tx = ts.tail := by unfold leftT; rw [h]; rfl
set_option maxHeartbeats 4000000 in
theorem vtakes (ts : List Tk) (kd : Int) (tx : ByteArray) (w : World) (g : Nat) (h : TkS w g ts) :
    Calls Tryz.prog 83 #[.pointer (some ⟨g, 0, none⟩), .int .i64 kd, .string tx] w fun e w' => e = .returned (.bool (hitB ts kd tx)) ∧ TkS w' g (leftT ts kd tx) ∧ w.grownBy w' (some g) := by
  have HT := Lib.hid h
  obtain ⟨A, c, hb, hc, hc2, hat⟩ := h
  have q0 : w.cell? ⟨g, 0, none⟩ = some (.slice A ts.length c) := hb.cell 0
  have qf := hb.free 0
  cases ts with
  | nil =>
    clear hb hat
    go_enter Tryz.func83, Tryz.ntmps83
    go_wp2_with fail
    go_ret
    exact ⟨rfl, HT.out, World.grownBy.refl w _⟩
  | cons t r =>
    obtain ⟨ad, rfl, hab, hcx⟩ := hat 0 (by simp)
    obtain ⟨s0, s1, s2⟩ := t_cells (a := ad) (t := t) hcx
    have HTL := Lib.hid (ats_tail hat)
    have HBK := Lib.hid hb
    simp only [List.length_cons] at q0 hc
    have d1 : (0 : Int) < ((r.length + 1 : Nat) : Int) := by omega
    have d2 : ¬ r.length + 1 ≤ 0 := by omega
    have HH := Lib.hid (show hitB (t :: r) kd tx = (t.kd == kd && t.tx.toList == tx.toList) from rfl)
    clear hb hat hcx
    cases b1 : (t.kd == kd)
    case false =>
      have b1' : (t.kd != kd) = true := by rw [bne, b1]; rfl
      have HR := Lib.hid (show hitB (t :: r) kd tx = false by rw [HH.out, b1]; rfl)
      go_enter Tryz.func83, Tryz.ntmps83
      go_wp2_with fail
      go_ret
      exact ⟨retB HR.out.symm, by rw [leftT_no HR.out]; exact HT.out, World.grownBy.refl w _⟩
    case true =>
    have b1' : (t.kd != kd) = false := by rw [bne, b1]; rfl
    cases b2 : (t.tx.toList == tx.toList)
    case false =>
      have b2' : (t.tx.toList != tx.toList) = true := by rw [bne, b2]; rfl
      have HR := Lib.hid (show hitB (t :: r) kd tx = false by rw [HH.out, b1, b2]; rfl)
      go_enter Tryz.func83, Tryz.ntmps83
      go_wp2_with fail
      go_ret
      exact ⟨retB HR.out.symm, by rw [leftT_no HR.out]; exact HT.out, World.grownBy.refl w _⟩
    case true =>
      have b2' : (t.tx.toList != tx.toList) = false := by rw [bne, b2]; rfl
      have HR := Lib.hid (show hitB (t :: r) kd tx = true by rw [HH.out, b1, b2]; rfl)
      have d3 : 1 ≤ r.length + 1 := by omega
      have d4 : (1 : Int) ≤ ((r.length + 1 : Nat) : Int) := by omega
      go_enter Tryz.func83, Tryz.ntmps83
      by_cases hc1 : c = 1
      · go_wp2_with fail
        go_ret
        refine ⟨retB HR.out.symm, ?_, only_setCell (World.grownBy.refl w _) (.inl rfl) _⟩
        rw [leftT_yes HR.out]
        have hr0 : r.length = 0 := by omega
        have hr : r = [] := List.eq_nil_of_length_eq_zero hr0
        subst hr
        exact ⟨_, _, Blk.put HBK.out 0 _, by simp, by omega, AtE.nil⟩
      · go_wp2_with fail
        go_ret
        refine ⟨retB HR.out.symm, ?_, only_setCell (World.grownBy.refl w _) (.inl rfl) _⟩
        rw [leftT_yes HR.out]
        have hlt := HBK.out.lt
        refine ⟨some (ad.add 3), c - 1, Blk.put HBK.out 0 _, by show r.length ≤ c - 1; omega, by omega, fun k hk => ?_⟩
        obtain ⟨a', e, hb', hc'⟩ := HTL.out k hk
        exact ⟨a', e, hb', fun j hj => (World.cell?_of_block (by rw [addE_block, addE_block]; exact Below.heap_setCell w _ _ _ (by show a'.block ≠ g; omega))).trans (hc' j hj)⟩
end Go.Proofs.YtpldopoeopjcoaaGreatDoor
/- next of the parser of package expression. -/
namespace Go.Proofs.YtpldopoeopjcoaaGreatDoor
open Go.RowKit
abbrev tkC (t : Tk) : Array Value := #[.int .i64 t.kd, .string t.tx, .int .i64 t.nu]
def zeroTk : Tk := ⟨0, ⟨#[]⟩, 0⟩
theorem tk_sz (t : Tk) : (Tryz.prog.info? 100).map (·.size) = some (tkC t).size := by show _ = some 3; kernel_rfl
theorem tk_ret {fn : Func} (h : fn.results = #[.cell 2 100]) (tmps : Array Value) (w : World) (g : Nat) (t : Tk) (hp : tmps.getD 2 undef = .pointer (some ⟨g, 0, none⟩)) (hg : Blk w g 100 (tkC t)) :
    (results fn tmps).run Tryz.prog w = .ok (.agg (tkC t)) w :=
  results_cell_row h tmps w g _ (tkC t) (0, 0) _ hp hg Tryz.underlying100 rfl (tk_sz t)
set_option maxHeartbeats 4000000 in
theorem vnext_nil (w : World) (g : Nat) (h : TkS w g []) :
    Calls Tryz.prog 101 #[.pointer (some ⟨g, 0, none⟩)] w fun e w' => e = .returned (.agg (tkC zeroTk)) ∧ TkS w' g [] ∧ w.grownBy w' (some g) := by
  have HT := Lib.hid (h.below ((Below.refl w.heap.size w).alloc (Nat.le_refl _) (.cells #[.int .i64 0, .string ⟨#[]⟩, .int .i64 0] 100)))
  obtain ⟨A, c, hb, hc, hc2, hat⟩ := h
  have q0 : (w.alloc (.cells #[.int .i64 0, .string ⟨#[]⟩, .int .i64 0] 100)).cell? ⟨g, 0, none⟩ = some (.slice A 0 c) := (hb.alloc _).cell 0
  clear hb hat
  go_enter Tryz.func101, Tryz.ntmps101
  go_wp2_with fail
  refine bodyPost_ret (tk_ret (fn := Tryz.f101) rfl _ _ w.heap.size zeroTk rfl (Blk.new w _ _)) rfl ?_
  exact ⟨rfl, HT.out, only_alloc (World.grownBy.refl w _) _⟩
set_option maxHeartbeats 8000000 in
theorem vnext_cons (t : Tk) (r : List Tk) (w : World) (g : Nat) (h : TkS w g (t :: r)) :
    Calls Tryz.prog 101 #[.pointer (some ⟨g, 0, none⟩)] w fun e w' => e = .returned (.agg (tkC t)) ∧ TkS w' g r ∧ w.grownBy w' (some g) := by
  obtain ⟨A, c, hb, hc, hc2, hat⟩ := h
  obtain ⟨ad, rfl, hab, hcx⟩ := hat 0 (by simp)
  have hgl := hb.lt
  obtain ⟨s0, s1, s2⟩ := t_cells (a := ad) (t := t) hcx
  have HTL := Lib.hid (ats_tail hat)
  have q0 : w.cell? ⟨g, 0, none⟩ = some (.slice (some ad) (r.length + 1) c) := hb.cell 0
  have qf := hb.free 0
  have HBK := Lib.hid hb
  simp only [List.length_cons] at hc
  have d1 : (0 : Int) < ((r.length + 1 : Nat) : Int) := by omega
  have d2 : ¬ r.length + 1 ≤ 0 := by omega
  have d3 : 1 ≤ r.length + 1 := by omega
  have d4 : (1 : Int) ≤ ((r.length + 1 : Nat) : Int) := by omega
  have hal : ad.block < w.heap.size := by omega
  clear hb hat hcx
  go_enter Tryz.func101, Tryz.ntmps101
  by_cases hc1 : c = 1
  · have hr0 : r.length = 0 := by omega
    have hr : r = [] := List.eq_nil_of_length_eq_zero hr0
    subst hr
    clear hr0
    have hse : (w.setCell ⟨g, 0, none⟩ (.slice (some ad) 0 0)).heap.size = w.heap.size := by simp [World.setCell]
    have T1 : TkS (w.setCell ⟨g, 0, none⟩ (.slice (some ad) 0 0)) g [] := ⟨_, _, Blk.put HBK.out 0 _, by simp, by omega, AtE.nil⟩
    have hbz : Below w.heap.size (w.setCell ⟨g, 0, none⟩ (.slice (some ad) 0 0)) (((w.setCell ⟨g, 0, none⟩ (.slice (some ad) 0 0)).alloc (.cells #[.int .i64 0, .string ⟨#[]⟩, .int .i64 0] 100)).alloc (.cells (tkC t) 100)) := ((Below.refl _ _).alloc (by rw [hse]; exact Nat.le_refl _) _).alloc (by simp [World.setCell]) _
    have X0 : Blk (((w.setCell ⟨g, 0, none⟩ (.slice (some ad) 0 0)).alloc (.cells #[.int .i64 0, .string ⟨#[]⟩, .int .i64 0] 100)).alloc (.cells (tkC t) 100)) w.heap.size 100 #[.int .i64 0, .string ⟨#[]⟩, .int .i64 0] := by
      have := (Blk.new (w.setCell ⟨g, 0, none⟩ (.slice (some ad) 0 0)) #[.int .i64 0, .string ⟨#[]⟩, .int .i64 0] 100).alloc (.cells (tkC t) 100)
      rw [hse] at this
      exact this
    have X2 : Blk (((w.setCell ⟨g, 0, none⟩ (.slice (some ad) 0 0)).alloc (.cells #[.int .i64 0, .string ⟨#[]⟩, .int .i64 0] 100)).alloc (.cells (tkC t) 100)) (w.heap.size + 1) 100 (tkC t) := by
      have := Blk.new ((w.setCell ⟨g, 0, none⟩ (.slice (some ad) 0 0)).alloc (.cells #[.int .i64 0, .string ⟨#[]⟩, .int .i64 0] 100)) (tkC t) 100
      simpa [World.setCell] using this
    have TF := Lib.hid (T1.below (by rw [hse]; exact below_row hbz (Nat.le_refl _) (tkC t)))
    have GF := Lib.hid (show w.grownBy ((((w.setCell ⟨g, 0, none⟩ (.slice (some ad) 0 0)).alloc (.cells #[.int .i64 0, .string ⟨#[]⟩, .int .i64 0] 100)).alloc (.cells (tkC t) 100)).setRow w.heap.size (tkC t)) (some g) from by
      have h0 := only_alloc (only_alloc (only_setCell (World.grownBy.refl w (some g)) (p := ⟨g, 0, none⟩) (.inl rfl) (.slice (some ad) 0 0)) (.cells #[.int .i64 0, .string ⟨#[]⟩, .int .i64 0] 100)) (.cells (tkC t) 100)
      exact ⟨h0.os, h0.tape, h0.output, by rw [setRow_size]; exact h0.size, fun i hi hne => (setRow_other _ _ _ _ (by omega)).trans (h0.block i hi hne)⟩)
    have X0 := Lib.hid X0
    have X2 := Lib.hid X2
    clear T1 hbz hse
    go_wp2_with (first | ((with_reducible refine load_blk ?_ 100 (.tmp 3) ?_ X2.out ?_ _ Tryz.underlying100 ?_ ?_ ?_); (iterate 4 rfl); exact tk_sz _) | ((with_reducible refine store_blk ?_ 100 (.tmp 2) (.tmp 25) ?_ X0.out (tkC t) ?_ ?_ ?_ ?_ ?_ ?_); (iterate 4 rfl); (exact tk_sz _); rfl; (simp [Value.oneCell'])))
    refine bodyPost_ret (tk_ret (fn := Tryz.f101) rfl _ _ w.heap.size t rfl (Blk.row X0.out _)) rfl ?_
    exact ⟨rfl, TF.out, GF.out⟩
  · have hlt := HBK.out.lt
    have hse : (w.setCell ⟨g, 0, none⟩ (.slice (some ⟨ad.block, ad.off + 3, none⟩) r.length (c - 1))).heap.size = w.heap.size := by simp [World.setCell]
    have T1 : TkS (w.setCell ⟨g, 0, none⟩ (.slice (some ⟨ad.block, ad.off + 3, none⟩) r.length (c - 1))) g r := ⟨some (ad.add 3), c - 1, Blk.put HBK.out 0 _, by show r.length ≤ c - 1; omega, by omega, fun k hk => by
      obtain ⟨a', e, hb', hc'⟩ := HTL.out k hk
      exact ⟨a', e, hb', fun j hj => (World.cell?_of_block (by rw [addE_block, addE_block]; exact Below.heap_setCell w _ _ _ (by show a'.block ≠ g; omega))).trans (hc' j hj)⟩⟩
    have hbz : Below w.heap.size (w.setCell ⟨g, 0, none⟩ (.slice (some ⟨ad.block, ad.off + 3, none⟩) r.length (c - 1))) (((w.setCell ⟨g, 0, none⟩ (.slice (some ⟨ad.block, ad.off + 3, none⟩) r.length (c - 1))).alloc (.cells #[.int .i64 0, .string ⟨#[]⟩, .int .i64 0] 100)).alloc (.cells (tkC t) 100)) := ((Below.refl _ _).alloc (by rw [hse]; exact Nat.le_refl _) _).alloc (by simp [World.setCell]) _
    have X0 : Blk (((w.setCell ⟨g, 0, none⟩ (.slice (some ⟨ad.block, ad.off + 3, none⟩) r.length (c - 1))).alloc (.cells #[.int .i64 0, .string ⟨#[]⟩, .int .i64 0] 100)).alloc (.cells (tkC t) 100)) w.heap.size 100 #[.int .i64 0, .string ⟨#[]⟩, .int .i64 0] := by
      have := (Blk.new (w.setCell ⟨g, 0, none⟩ (.slice (some ⟨ad.block, ad.off + 3, none⟩) r.length (c - 1))) #[.int .i64 0, .string ⟨#[]⟩, .int .i64 0] 100).alloc (.cells (tkC t) 100)
      rw [hse] at this
      exact this
    have X2 : Blk (((w.setCell ⟨g, 0, none⟩ (.slice (some ⟨ad.block, ad.off + 3, none⟩) r.length (c - 1))).alloc (.cells #[.int .i64 0, .string ⟨#[]⟩, .int .i64 0] 100)).alloc (.cells (tkC t) 100)) (w.heap.size + 1) 100 (tkC t) := by
      have := Blk.new ((w.setCell ⟨g, 0, none⟩ (.slice (some ⟨ad.block, ad.off + 3, none⟩) r.length (c - 1))).alloc (.cells #[.int .i64 0, .string ⟨#[]⟩, .int .i64 0] 100)) (tkC t) 100
      simpa [World.setCell] using this
    have TF := Lib.hid (T1.below (by rw [hse]; exact below_row hbz (Nat.le_refl _) (tkC t)))
    have GF := Lib.hid (show w.grownBy ((((w.setCell ⟨g, 0, none⟩ (.slice (some ⟨ad.block, ad.off + 3, none⟩) r.length (c - 1))).alloc (.cells #[.int .i64 0, .string ⟨#[]⟩, .int .i64 0] 100)).alloc (.cells (tkC t) 100)).setRow w.heap.size (tkC t)) (some g) from by
      have h0 := only_alloc (only_alloc (only_setCell (World.grownBy.refl w (some g)) (p := ⟨g, 0, none⟩) (.inl rfl) (.slice (some ⟨ad.block, ad.off + 3, none⟩) r.length (c - 1))) (.cells #[.int .i64 0, .string ⟨#[]⟩, .int .i64 0] 100)) (.cells (tkC t) 100)
      exact ⟨h0.os, h0.tape, h0.output, by rw [setRow_size]; exact h0.size, fun i hi hne => (setRow_other _ _ _ _ (by omega)).trans (h0.block i hi hne)⟩)
    have X0 := Lib.hid X0
    have X2 := Lib.hid X2
    clear T1 hbz hse
    go_wp2_with (first | ((with_reducible refine load_blk ?_ 100 (.tmp 3) ?_ X2.out ?_ _ Tryz.underlying100 ?_ ?_ ?_); (iterate 4 rfl); exact tk_sz _) | ((with_reducible refine store_blk ?_ 100 (.tmp 2) (.tmp 25) ?_ X0.out (tkC t) ?_ ?_ ?_ ?_ ?_ ?_); (iterate 4 rfl); (exact tk_sz _); rfl; (simp [Value.oneCell'])))
    refine bodyPost_ret (tk_ret (fn := Tryz.f101) rfl _ _ w.heap.size t rfl (Blk.row X0.out _)) rfl ?_
    exact ⟨rfl, TF.out, GF.out⟩
end Go.Proofs.YtpldopoeopjcoaaGreatDoor
/- word of the parser of package expression, where a name stands. -/
namespace Go.Proofs.YtpldopoeopjcoaaGreatDoor
open Go.RowKit
theorem TkS.alloc {w : World} {g : Nat} {ts : List Tk} (h : TkS w g ts) (o : Obj) : TkS (w.alloc o) g ts := h.below ((Below.refl _ _).alloc (Nat.le_refl _) o)
set_option maxHeartbeats 4000000 in
theorem vword_ok (t : Tk) (r : List Tk) (hk : t.kd = 1) (hy : keyB t.tx = false) (w : World) (g : Nat) (h : TkS w g (t :: r)) :
    Calls Tryz.prog 100 #[.pointer (some ⟨g, 0, none⟩)] w fun e w' => e = .returned (.string t.tx) ∧ TkS w' g r ∧ w.grownBy w' (some g) := by
  have H := Lib.hid (vnext_cons t r w g h)
  have HK := Lib.hid (fun W : World => vkey38 t.tx W)
  have HY := Lib.hid hy
  have b1 : (t.kd != 1) = false := by simp [hk]
  clear h hy hk
  go_enter Tryz.func100, Tryz.ntmps100
  go_wp2_with fail
  refine H.out.mono ?_
  rintro e w1 ⟨rfl, ht, hg⟩
  have HT := Lib.hid (ht.alloc (.cells (tkC t) 100))
  have HG := Lib.hid (only_alloc hg (.cells (tkC t) 100))
  have X := Lib.hid (Blk.new w1 (tkC t) 100)
  have c0 := X.out.cell 0
  have c1 := X.out.cell 1
  clear ht hg
  go_wp2_with fail
  refine (HK.out _).mono ?_
  rintro e w2 ⟨rfl, rfl⟩
  rw [HY.out]
  go_wp2_with fail
  go_ret
  exact ⟨rfl, HT.out, HG.out⟩
end Go.Proofs.YtpldopoeopjcoaaGreatDoor
/- run of package expression: how many bytes at the beginning are accepted. -/
namespace Go.Proofs.YtpldopoeopjcoaaGreatDoor
open Go.RowKit
/-- How many bytes at the beginning of a text are accepted. -/
def runL (p : UInt8 → Bool) : List UInt8 → Nat
  | [] => 0
  | a :: r => if p a = true then runL p r + 1 else 0
theorem runL_le (p : UInt8 → Bool) : ∀ l : List UInt8, runL p l ≤ l.length
  | [] => Nat.le_refl _
  | a :: r => by
    unfold runL
    split
    · have := runL_le p r; simp; omega
    · simp
set_option maxRecDepth 100000 in
set_option maxHeartbeats 4000000 in
theorem vrun_part (s : ByteArray) (hs : s.size ≤ 1000000) (w : World) :
    Calls Tryz.prog 79 #[.string s, .func (.func 63) #[] #[]] w fun e w' => e = .returned (.int .i64 (runL nmd s.data.toList)) ∧ w = w' := by
  go_enter Tryz.func79, Tryz.ntmps79
  go_wp2_with fail
  go_loopw [5] (fun i wr => ∃ k : Nat, k ≤ s.size ∧ i = .int .i64 (k : Int) ∧ Hid (runL nmd s.data.toList = k + runL nmd (s.data.toList.drop k)) ∧ wr = w) (fun i _ => s.size - (intOf i).toNat)
  case atStart => exact ⟨0, Nat.zero_le _, rfl, Lib.hid (by simp), rfl⟩
  case round =>
    obtain ⟨k, hk, rfl, hr, rfl⟩ := hrel
    by_cases hlt : k < s.size
    · have hlt1 : (k : Int) < (s.size : Int) := by omega
      have HD : s.data.toList.drop k = s[k] :: s.data.toList.drop (k + 1) := List.drop_eq_getElem_cons (by simpa using hlt)
      have HC := Lib.hid (vpart38 s[k] wr)
      have HE := Lib.hid (show runL nmd (s.data.toList.drop k) = if nmd s[k] = true then runL nmd (s.data.toList.drop (k + 1)) + 1 else 0 by rw [HD]; rfl)
      clear HD
      go_wp2_with fail
      refine HC.out.mono ?_
      rintro e w1 ⟨rfl, rfl⟩
      cases hb : nmd s[k]
      · have HR := Lib.hid (show runL nmd s.data.toList = k by rw [hr.out, HE.out, hb]; simp)
        go_wp2_with fail
        go_ret
        exact ⟨by rw [HR.out]; rfl, rfl⟩
      · have HR := Lib.hid (show runL nmd s.data.toList = (k + 1) + runL nmd (s.data.toList.drop (k + 1)) by rw [hr.out, HE.out, hb]; simp; omega)
        go_wp2_with fail
        go_roundw
        case rel => exact ⟨k + 1, by omega, by go_num, HR, trivial⟩
        case measure => simp [intOf]; omega
    · have hlt1 : ¬ (k : Int) < (s.size : Int) := by omega
      have HR := Lib.hid (show runL nmd s.data.toList = k by rw [hr.out, List.drop_eq_nil_of_le (by simp; omega)]; rfl)
      go_wp2_with fail
      go_ret
      exact ⟨by rw [HR.out]; rfl, rfl⟩
set_option maxRecDepth 100000 in
set_option maxHeartbeats 4000000 in
theorem vrun_digit (s : ByteArray) (hs : s.size ≤ 1000000) (w : World) :
    Calls Tryz.prog 79 #[.string s, .func (.func 74) #[] #[]] w fun e w' => e = .returned (.int .i64 (runL dig38 s.data.toList)) ∧ w = w' := by
  go_enter Tryz.func79, Tryz.ntmps79
  go_wp2_with fail
  go_loopw [5] (fun i wr => ∃ k : Nat, k ≤ s.size ∧ i = .int .i64 (k : Int) ∧ Hid (runL dig38 s.data.toList = k + runL dig38 (s.data.toList.drop k)) ∧ wr = w) (fun i _ => s.size - (intOf i).toNat)
  case atStart => exact ⟨0, Nat.zero_le _, rfl, Lib.hid (by simp), rfl⟩
  case round =>
    obtain ⟨k, hk, rfl, hr, rfl⟩ := hrel
    by_cases hlt : k < s.size
    · have hlt1 : (k : Int) < (s.size : Int) := by omega
      have HD : s.data.toList.drop k = s[k] :: s.data.toList.drop (k + 1) := List.drop_eq_getElem_cons (by simpa using hlt)
      have HC := Lib.hid (vdigit38 s[k] wr)
      have HE := Lib.hid (show runL dig38 (s.data.toList.drop k) = if dig38 s[k] = true then runL dig38 (s.data.toList.drop (k + 1)) + 1 else 0 by rw [HD]; rfl)
      clear HD
      go_wp2_with fail
      refine HC.out.mono ?_
      rintro e w1 ⟨rfl, rfl⟩
      cases hb : dig38 s[k]
      · have HR := Lib.hid (show runL dig38 s.data.toList = k by rw [hr.out, HE.out, hb]; simp)
        go_wp2_with fail
        go_ret
        exact ⟨by rw [HR.out]; rfl, rfl⟩
      · have HR := Lib.hid (show runL dig38 s.data.toList = (k + 1) + runL dig38 (s.data.toList.drop (k + 1)) by rw [hr.out, HE.out, hb]; simp; omega)
        go_wp2_with fail
        go_roundw
        case rel => exact ⟨k + 1, by omega, by go_num, HR, trivial⟩
        case measure => simp [intOf]; omega
    · have hlt1 : ¬ (k : Int) < (s.size : Int) := by omega
      have HR := Lib.hid (show runL dig38 s.data.toList = k by rw [hr.out, List.drop_eq_nil_of_le (by simp; omega)]; rfl)
      go_wp2_with fail
      go_ret
      exact ⟨by rw [HR.out]; rfl, rfl⟩
end Go.Proofs.YtpldopoeopjcoaaGreatDoor
/- Quote, of the program and of the reference, returns quoteS and quoteE. -/
namespace Go.Proofs.YtpldopoeopjcoaaGreatDoor
open Go.RowKit
theorem Tryz.info5 : (Tryz.prog.info? 5).map (fun i => (i.zero, i.size, i.bytes)) = some (some (.int .u8 0), 1, 1) := by kernel_rfl
/-- The variable digits of package value holds the sixteen digits. -/
def tabV : Array Value := #[.int .u8 48, .int .u8 49, .int .u8 50, .int .u8 51, .int .u8 52, .int .u8 53, .int .u8 54, .int .u8 55, .int .u8 56, .int .u8 57, .int .u8 97, .int .u8 98, .int .u8 99, .int .u8 100, .int .u8 101, .int .u8 102]
def Tab (w : World) : Prop := Glob w 0 tabV
theorem Tab.cell {w : World} (h : Tab w) (i : Nat) (hi : i < 16) : w.cell? ⟨0, i, none⟩ = some (bv (hexd i)) := by
  rw [Glob.cell h i]
  have : i = 0 ∨ i = 1 ∨ i = 2 ∨ i = 3 ∨ i = 4 ∨ i = 5 ∨ i = 6 ∨ i = 7 ∨ i = 8 ∨ i = 9 ∨ i = 10 ∨ i = 11 ∨ i = 12 ∨ i = 13 ∨ i = 14 ∨ i = 15 := by omega
  rcases this with h | h | h | h | h | h | h | h | h | h | h | h | h | h | h | h <;> (subst h; rfl)
theorem Tab.below {B : Nat} {w w' : World} (h : Tab w) (hb : Below B w w') (hB : w.heap.size ≤ B) : Tab w' := Glob.below h hb hB
theorem hexrow (s : ByteArray) (k : Nat) (hlt : k < s.size) (xs : List Value) (h : xs = (120 :: hexL (s.data.toList.take k)).map bv) :
    xs ++ [bv (hexd (s[k].toNat / 16)), bv (hexd (s[k].toNat % 16))] = (120 :: hexL (s.data.toList.take (k + 1))).map bv := by
  rw [take_snoc s k hlt, hexL_snoc, h]; simp [hex2]
theorem quoteS_hex (s : ByteArray) (hs : ¬ 640 < s.size) (hu : safeB s.data.toList = false) : quoteS s = ⟨(120 :: hexL s.data.toList).toArray⟩ := by
  unfold quoteS quoteL; rw [if_neg hs, hu]; rfl
theorem quoteS_safe (s : ByteArray) (hs : ¬ 640 < s.size) (hu : safeB s.data.toList = true) : quoteS s = ⟨(34 :: (s.data.toList ++ [34])).toArray⟩ := by
  unfold quoteS quoteL; rw [if_neg hs, hu]; rfl
theorem quoteE_ok (s : ByteArray) (hs : ¬ 640 < s.size) : quoteE s = 0 := if_neg hs
theorem tup {a b : ByteArray} {m n : Int} (h : a = b) (k : m = n) : Ending.returned (.tuple #[.string a, .int .i64 m]) = .returned (.tuple #[.string b, .int .i64 n]) := by rw [h, k]

set_option maxRecDepth 100000 in
set_option maxHeartbeats 1000000 in
theorem vquote_hex (s : ByteArray) (w : World) (hs : s.size ≤ 640) (hu : safeB s.data.toList = false) (ht : Tab w) :
    Calls Tryz.prog 38 #[.string s] w fun e w' => e = .returned (.tuple #[.string (quoteS s), .int .i64 (quoteE s)]) ∧ Below w.heap.size w w' := by
  obtain ⟨i0, hi, hz0, hz1, hz2⟩ := info_parts Tryz.info5
  have h8 : decide (640 < (s.size : Int)) = false := by simp; omega
  have HU := Lib.hid hu
  have HQ := Lib.hid (quoteS_hex s (by omega) hu)
  have HE := Lib.hid (quoteE_ok s (by omega))
  clear hu
  go_enter Tryz.func38, Tryz.ntmps38
  go_wp2_with (first
    | (go_at_call 57; refine (vsafe _ _ (by unfold maxLen; omega)).mono ?_; rintro e w' ⟨rfl, rfl⟩; rw [HU.out])
    | (at_make; refine wpList_make_own _ rfl _ _ 22 rfl w.heap.size 5 i0 _ 1 Tryz.underlying22 hi hz0 hz1 _ _ _ (1 + 2 * s.size) rfl rfl (by omega) (by rw [hz2]; omega) (by unfold maxLen; omega) (Nat.le_refl _) ?_; intro w1 hown1 hg1)
    | (at_builtin; refine wpList_append_own _ rfl _ _ 22 rfl w.heap.size 5 i0 _ 1 1 Tryz.underlying22 hi hz0 hz1 hz2 rfl (by omega) _ _ _ rfl (hown1.alloc _) ⟨w1.heap.size, 0, none⟩ 1 1 [.int .u8 120] rfl rfl (cell_one_new _ _ _) (by simp [Value.oneCell']) (by unfold maxLen; omega) (by omega) (by have := hg1.size; simp; omega) ?_; intro v2 w2 hown2 hg2 _))
  have hb1 : Below w.heap.size w w1 := (Below.refl _ _).grown hg1 (Nat.le_refl _) (by simp)
  have hb2 : Below w.heap.size w w2 := below_grown_own (hb1.alloc hb1.size _) hown1 (Nat.le_refl _) hg2 (by have := hb1.size; simp; omega)
  clear hg1 hg2 hown1 hb1
  go_loopw [4, 24] (fun v i wr => ∃ k : Nat, k ≤ s.size ∧ i = .int .i64 k ∧ wr.ownsRow w.heap.size 5 1 v (1 + 2 * k) ((120 :: hexL (s.data.toList.take k)).map bv) ∧ Below w.heap.size w wr) (fun _ i _ => s.size - (intOf i).toNat)
  case atStart => exact ⟨0, Nat.zero_le _, rfl, by simpa [hexL, bv] using hown2, hb2⟩
  case round =>
    obtain ⟨k, hk, rfl, hown, hb⟩ := hrel
    clear hown2 hb2
    by_cases hlt : k < s.size
    · have q1 : (0:Int) ≤ (s[k].toNat : Int) := by omega
      have q2 : (s[k].toNat : Int) < 256 := by have := s[k].toNat_lt; omega
      have q3 : (0:Int) ≤ (k : Int) := by omega
      have q4 : (k:Int) < (s.size : Int) := by omega
      have q5 : (0:Int) ≤ (s[k].toNat : Int) / 16 := by omega
      have q6 : (s[k].toNat : Int) / 16 < 16 := by omega
      have q7 : (0:Int) ≤ (s[k].toNat : Int) % 16 := by omega
      have q8 : (s[k].toNat : Int) % 16 < 16 := by omega
      have ht' := ht.below hb (Nat.le_refl _)
      have p1 : wr.cell? ⟨0, ((s[k].toNat : Int) / 16).toNat, none⟩ = some (bv (hexd (s[k].toNat / 16))) := by
        rw [show ((s[k].toNat : Int) / 16).toNat = s[k].toNat / 16 by omega]; exact ht'.cell _ (by omega)
      have p2 : wr.cell? ⟨0, ((s[k].toNat : Int) % 16).toNat, none⟩ = some (bv (hexd (s[k].toNat % 16))) := by
        rw [show ((s[k].toNat : Int) % 16).toNat = s[k].toNat % 16 by omega]; exact ht'.cell _ (by omega)
      have lt0 : 0 < wr.heap.size := Glob.lt ht'
      have ne0 : ∀ j, u4.ownBlock = some j → w.heap.size ≤ j := fun j hj => (hown.lt j hj).1
      have NE := Lib.hid (show some 0 ≠ u4.ownBlock from fun e => by have := ne0 _ e.symm; have := Glob.lt ht; omega)
      have q9 : bits .and .u8 (s[k].toNat : Int) 15 = (s[k].toNat : Int) % 16 := u8_and15 _ q1 q2
      clear ht' ne0
      go_wp2_with fail
      go_region_held3 (fun w' => w'.cell? ⟨0, ((s[k].toNat : Int) / 16).toNat, none⟩ = some (bv (hexd (s[k].toNat / 16))) ∧ w'.cell? ⟨0, ((s[k].toNat : Int) % 16).toNat, none⟩ = some (bv (hexd (s[k].toNat % 16)))) (first | go_keep | (go_split_ands; refine ⟨?_, ?_⟩ <;> (rw [hgrow.cell_far _ (by simp <;> omega) NE.out]; assumption)))
        ((refine step_append_lies _ (by rfl) _ _ _ (by rfl) w.heap.size 5 i0 _ 1 1 Tryz.underlying22 hi hz0 hz1 hz2 rfl (by omega) u4 (1 + 2 * k) _ (by rfl) ((hown.alloc _).drew) ⟨wr.heap.size, 0, none⟩ 2 2 [bv (hexd (s[k].toNat / 16)), bv (hexd (s[k].toNat % 16))] (by rfl) (by rfl) (World.news_of_block (cs := #[bv (hexd (s[k].toNat / 16)), bv (hexd (s[k].toNat % 16))]) (t := 5) (fr := (0, 0)) (heap_alloc_new wr _)) (by simp [Value.oneCell']) (by omega) (by unfold maxLen; omega) (by omega) (by have := hb.size; simp; omega) (wr.heap.size + 1) (by simp) ?_; intro gg cap w3 hown3 hgrow hat hlt3))
      all_goals
        have hb3 : Below w.heap.size w w3 := below_grown_own ((hb.alloc hb.size _).drew) hown (Nat.le_refl _) hgrow (by have := hb.size; simp; omega)
        rw [hexrow s k hlt _ rfl] at hown3
        clear hgrow hat q9 p1 p2
        go_wp2
        go_roundw
        case rel => exact ⟨k + 1, by omega, by go_num, by rw [show 1 + 2 * (k + 1) = 1 + 2 * k + 2 by omega]; exact hown3, hb3⟩
        case measure => simp [intOf]; omega
    · obtain rfl : k = s.size := by omega
      rw [take_all s s.size (Nat.le_refl _)] at hown
      have hcv := conv_own (P := Tryz.prog) (src := 22) (dst := 9) hown Tryz.underlying22 Tryz.underlying5 Tryz.underlying9
      rw [← HQ.out] at hcv
      go_wp2
      go_ret2
      exact ⟨tup rfl HE.out.symm, hb⟩
theorem vquote_short (s : ByteArray) (w : World) (hs : s.size ≤ 640) (hu : safeB s.data.toList = true) :
    Calls Tryz.prog 38 #[.string s] w fun e w' => e = .returned (.tuple #[.string (quoteS s), .int .i64 (quoteE s)]) ∧ Below w.heap.size w w' := by
  have HU := Lib.hid hu
  have HQ := Lib.hid (quoteS_safe s (by omega) hu)
  have HE := Lib.hid (quoteE_ok s (by omega))
  clear hu
  go_enter Tryz.func38, Tryz.ntmps38
  go_wp2_with (go_at_call 57; refine (vsafe _ _ (by unfold maxLen; omega)).mono ?_; rintro e w' ⟨rfl, rfl⟩; rw [HU.out])
  go_ret2
  refine ⟨tup ?_ HE.out.symm, Below.refl _ _⟩
  rw [HQ.out]
  rfl
theorem vquote_long (s : ByteArray) (w : World) (hs : ¬ s.size ≤ 640) (hm : s.size ≤ maxLen) :
    Calls Tryz.prog 38 #[.string s] w fun e w' => e = .returned (.tuple #[.string (quoteS s), .int .i64 (quoteE s)]) ∧ Below w.heap.size w w' := by
  unfold maxLen at hm
  have HQ := Lib.hid (show quoteS s = ⟨#[]⟩ from if_pos (by omega))
  have HE := Lib.hid (show quoteE s = 20 from if_pos (by omega))
  go_enter Tryz.func38, Tryz.ntmps38
  go_wp2
  go_ret2
  exact ⟨tup HQ.out.symm HE.out.symm, Below.refl _ _⟩
theorem vquote (s : ByteArray) (w : World) (hm : s.size ≤ maxLen) (ht : Tab w) :
    Calls Tryz.prog 38 #[.string s] w fun e w' => e = .returned (.tuple #[.string (quoteS s), .int .i64 (quoteE s)]) ∧ Below w.heap.size w w' := by
  by_cases hs : s.size ≤ 640
  · cases hu : safeB s.data.toList
    · exact vquote_hex s w hs hu ht
    · exact vquote_short s w hs hu
  · exact vquote_long s w hs hm
def hexS (s : ByteArray) (k : Nat) : ByteArray := ⟨(120 :: hexL (s.data.toList.take k)).toArray⟩
theorem hexS_size (s : ByteArray) (k : Nat) : (hexS s k).size = 1 + 2 * min k s.size := by
  unfold hexS ByteArray.size; simp [hexL_length]; omega
theorem hexS_succ (s : ByteArray) (k : Nat) (h : k < s.size) : hexS s (k + 1) = hexS s k ++ (⟨#[hexd (s[k].toNat / 16)]⟩ ++ ⟨#[hexd (s[k].toNat % 16)]⟩) := by
  unfold hexS; rw [take_snoc s k h, hexL_snoc]
  apply ByteArray.ext; simp [hex2]
theorem digit_slice (x : Int) (h0 : 0 ≤ x) (h1 : x < 16) (w : World) : (Instr.slice 9 (.string ⟨#[48, 49, 50, 51, 52, 53, 54, 55, 56, 57, 97, 98, 99, 100, 101, 102]⟩) (some (.int .u8 x)) (some (.int .u8 (x + 1))) none).run Tryz.prog w = .ok (.string ⟨#[hexd x.toNat]⟩) w := by
  have : x = 0 ∨ x = 1 ∨ x = 2 ∨ x = 3 ∨ x = 4 ∨ x = 5 ∨ x = 6 ∨ x = 7 ∨ x = 8 ∨ x = 9 ∨ x = 10 ∨ x = 11 ∨ x = 12 ∨ x = 13 ∨ x = 14 ∨ x = 15 := by omega
  rcases this with h | h | h | h | h | h | h | h | h | h | h | h | h | h | h | h <;> (subst h; clear h0 h1; show _ = _; kernel_rfl)
end Go.Proofs.YtpldopoeopjcoaaGreatDoor
