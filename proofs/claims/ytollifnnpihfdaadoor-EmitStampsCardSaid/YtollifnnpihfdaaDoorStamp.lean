/- Stamp of the program. -/
import Derived.Test.YtollifnnpihfdaaDoorRecEq
namespace Go.Proofs.YtollifnnpihfdaaDoor
open Go.RowKit
/-- Records that can be read. -/
structure RecsAt (w : World) (A : Option Addr) (L : List Rm) : Prop where
  at' : AtE ER w w.heap.size A L
  ps : ∀ x ∈ L, AtE EP w w.heap.size x.A x.r.ps
  ln : ∀ x ∈ L, x.r.ps.length ≤ 1000
theorem RecsAt.below {w w' : World} {A : Option Addr} {L : List Rm} (h : RecsAt w A L) (hb : Below w.heap.size w w') : RecsAt w' A L := ⟨h.at'.below hb, fun x hx => (h.ps x hx).below hb, h.ln⟩
/-- What Stamp keeps. -/
structure SmSt (w wr : World) (s : Int) (L : List Rm) (k : Nat) (v : Value) (M : List Rm) : Prop where
  own : OwnE ER wr w.heap.size v M
  rs : M.map (·.r) = (L.take k).map fun x => { x.r with se := s }
  ps : ∀ x ∈ M, OwnE EP wr w.heap.size x.sl x.r.ps ∧ ∀ b, x.sl.ownBlock = some b → v.ownBlock ≠ some b
  low : Below w.heap.size w wr
theorem SmSt.below {w wr w' : World} {s : Int} {L M : List Rm} {k : Nat} {v : Value} (h : SmSt w wr s L k v M) (hb : Below wr.heap.size wr w') : SmSt w w' s L k v M :=
  ⟨h.own.below hb, h.rs, fun x hx => ⟨(h.ps x hx).1.below hb, (h.ps x hx).2⟩, below_then h.low hb⟩
theorem SmSt.len {w wr : World} {s : Int} {L M : List Rm} {k : Nat} {v : Value} (h : SmSt w wr s L k v M) (hk : k ≤ L.length) : M.length = k := by
  have := congrArg List.length h.rs
  rw [List.length_map, List.length_map, List.length_take] at this
  omega
/-- What Stamp leaves. -/
def StampPost (s : Int) (n : Nat) (L : List Rm) (w : World) (e : Ending) (w' : World) : Prop :=
  ∃ (A : Option Addr) (c : Nat) (M : List Rm), e = .returned (.slice A n c) ∧ M.length = n ∧ RecsAt w' A M ∧ M.map (·.r) = (L.map fun x => { x.r with se := s }) ∧ Below w.heap.size w w'
theorem stamp_ln {s : Int} {L M : List Rm} (h : M.map (·.r) = (L.map fun x => ({ x.r with se := s } : Rc))) (hl : ∀ x ∈ L, x.r.ps.length ≤ 1000) : ∀ x ∈ M, x.r.ps.length ≤ 1000 := fun x hx => by
  have : x.r ∈ M.map (·.r) := List.mem_map.2 ⟨x, hx, rfl⟩
  rw [h] at this
  obtain ⟨y, hy, e⟩ := List.mem_map.1 this
  rw [← e]; exact hl y hy
theorem SmSt.app {w w2 w' : World} {s : Int} {L M : List Rm} {k : Nat} {v v' : Value} {x y : Rm} (h : SmSt w w2 s L k v M) (hk : L[k]? = some x) (hy : y.r = { x.r with se := s }) (hp : OwnE EP w2 w.heap.size y.sl y.r.ps) (hf : ∀ b, y.sl.ownBlock = some b → v.ownBlock ≠ some b)
    (ho : OwnE ER w' w.heap.size v' (M ++ [y])) (hg : w2.grownBy w' v.ownBlock) (hat : v'.ownBlock = v.ownBlock ∨ v'.ownBlock = some w2.heap.size) : SmSt w w' s L (k + 1) v' (M ++ [y]) := by
  have hlow : Below w.heap.size w2 w' := ⟨hg.os, hg.tape, hg.output, hg.size, fun i hi => hg.block i (by have := h.low.size; omega) (fun e => by have := h.own.ge i e.symm; omega)⟩
  have hps : ∀ z : Rm, OwnE EP w2 w.heap.size z.sl z.r.ps → (∀ b, z.sl.ownBlock = some b → v.ownBlock ≠ some b) → OwnE EP w' w.heap.size z.sl z.r.ps ∧ ∀ b, z.sl.ownBlock = some b → v'.ownBlock ≠ some b := fun z h1 h2 =>
    ⟨h1.far hg h2, fun b hb => by
      rcases hat with e | e
      · rw [e]; exact h2 b hb
      · rw [e]; intro e2; injection e2 with e2; have := h1.lt b hb; omega⟩
  refine ⟨ho, ?_, fun z hz => ?_, h.low.trans hlow⟩
  · obtain ⟨hlt, he⟩ := List.getElem?_eq_some_iff.1 hk
    rw [List.map_append, h.rs, List.take_succ_eq_append_getElem hlt, List.map_append, he]
    simp [hy]
  · rcases List.mem_append.1 hz with hz | hz
    · exact hps z (h.ps z hz).1 (h.ps z hz).2
    · rw [List.mem_singleton.1 hz]; exact hps y hp hf
theorem SmSt.cell {w wr : World} {s : Int} {L M : List Rm} {k g : Nat} {v : Value} (h : SmSt w wr s L k v M) (hg : w.heap.size ≤ g) (hv : v.ownBlock ≠ some g) (hx : ∀ x ∈ M, x.sl.ownBlock ≠ some g) (i : Nat) (u : Value) : SmSt w (wr.setCell ⟨g, i, none⟩ u) s L k v M :=
  ⟨h.own.farCell hv _, h.rs, fun x hm => ⟨(h.ps x hm).1.farCell (hx x hm) _, (h.ps x hm).2⟩, h.low.setCell (by show w.heap.size ≤ g; omega) _⟩
set_option maxRecDepth 100000 in
set_option maxHeartbeats 8000000 in
theorem vstamp (A : Option Addr) (n c : Nat) (L : List Rm) (s : Int) (hn : n = L.length) (hl : n ≤ 1000) (w : World) (h : RecsAt w A L) :
    Calls Tryd.prog 7 #[.slice A n c, .int .i64 s] w (StampPost s n L w) := by
  have H := Lib.hid h
  have HN := Lib.hid hn
  clear h hn
  go_enter Tryd.func7, Tryd.ntmps7
  go_wp2_with fail
  go_loopw [5, 10] (fun v i wr => ∃ (k : Nat) (M : List Rm), k ≤ n ∧ i = .int .i64 (k : Int) ∧ SmSt w wr s L k v M) (fun _ i _ => n - (intOf i).toNat)
  case atStart => exact ⟨0, [], Nat.zero_le _, rfl, OwnE.nil _ _, rfl, fun x hx => (by cases hx), Below.refl _ _⟩
  case round =>
    obtain ⟨k, M, hk, rfl, hst⟩ := hrel
    generalize u5 = v at *
    have ST := Lib.hid hst
    have hML := hst.len (by have := HN.out; omega)
    by_cases hlt : k < n
    · have hkL : k < L.length := by rw [← HN.out]; exact hlt
      have hr := H.out.below (w' := wr) (by have := hst.low; exact this)
      obtain ⟨ad, rfl, hbl, hc⟩ := hr.at' k hkL
      obtain ⟨s0, s1, s2, s3⟩ := rc_cells (a := ad.add (k * 4)) hc
      have HX := Lib.hid (List.getElem?_eq_getElem hkL)
      have HPX := Lib.hid (hr.ps _ (List.getElem_mem hkL))
      have HLX := Lib.hid (hr.ln _ (List.getElem_mem hkL))
      clear hc hr hst
      generalize L[k] = x at *
      have k0 : (0 : Int) ≤ (k : Int) := by omega
      have kn : (k : Int) < (n : Int) := by omega
      have ST1 := Lib.hid (ST.out.below ((Below.refl wr.heap.size wr).alloc (Nat.le_refl _) (.cells (rcC x.r x.sl) 29)))
      have X1 := Lib.hid (Blk.new wr (rcC x.r x.sl) 29)
      have HP1 := Lib.hid (HPX.out.below ((Below.refl wr.heap.size wr).alloc (Nat.le_refl _) (.cells (rcC x.r x.sl) 29)))
      have hv0 : v.ownBlock ≠ some wr.heap.size := fun e => by have := ST.out.own.lt _ e; omega
      have hx0 : ∀ x ∈ M, x.sl.ownBlock ≠ some wr.heap.size := fun x hx e => by have := (ST.out.ps x hx).1.lt _ e; omega
      have hwr : w.heap.size ≤ wr.heap.size := ST.out.low.size
      go_wp2_with fail
      refine (vclone x.A x.r.ps.length x.c x.r.ps rfl HLX.out _ HP1.out).mono ?_
      rintro e w1 ⟨A', c', rfl, hoc, hb1⟩
      have ST2 := ST1.out.below hb1
      have X2 := Blk.below X1.out hb1
      have c3 := X2.cell 3
      have c2 := X2.cell 2
      have f3 := X2.free 3
      have f2 := X2.free 2
      have X3 := Lib.hid (show RcB ((w1.setCell ⟨wr.heap.size, 3, none⟩ (.slice A' x.r.ps.length c')).setCell ⟨wr.heap.size, 2, none⟩ (.int .i64 s)) wr.heap.size { x.r with se := s } (.slice A' x.r.ps.length c') from Blk.put (Blk.put X2 3 (.slice A' x.r.ps.length c')) 2 (.int .i64 s))
      have ST3 := Lib.hid ((ST2.cell hwr hv0 hx0 3 (.slice A' x.r.ps.length c')).cell hwr hv0 hx0 2 (.int .i64 s))
      have hne : (Value.slice A' x.r.ps.length c').ownBlock ≠ some wr.heap.size := fun e => by have := hoc.ge _ e; simp at this; omega
      have OC := Lib.hid (((hoc.farCell (i := 3) hne (.slice A' x.r.ps.length c')).farCell (i := 2) hne (.int .i64 s)).low (base := w.heap.size) (by simp; omega))
      have HVF := Lib.hid (show ∀ b, (Value.slice A' x.r.ps.length c').ownBlock = some b → v.ownBlock ≠ some b from fun b hb e => by have := hoc.ge _ hb; have := ST.out.own.lt _ e; simp at *; omega)
      clear ST1 X1 HP1 hoc hb1 ST2 X2 s0 s1 s2 s3 hbl hv0 hx0 hne
      go_upto_region 7 with (fail)
      clear c3 c2 f3 f2
      generalize (w1.setCell ⟨wr.heap.size, 3, none⟩ (.slice A' x.r.ps.length c')).setCell ⟨wr.heap.size, 2, none⟩ (.int .i64 s) = w2 at *
      have ST4 := Lib.hid (ST3.out.below ((Below.refl w2.heap.size w2).alloc (Nat.le_refl _) (.cells (rcC { x.r with se := s } (.slice A' x.r.ps.length c')) 29)))
      have OC4 := Lib.hid (OC.out.alloc (.cells (rcC { x.r with se := s } (.slice A' x.r.ps.length c')) 29))
      have RW := Lib.hid (row_newE ER w2 (rcC { x.r with se := s } (.slice A' x.r.ps.length c')) 29 ⟨{ x.r with se := s }, A', c'⟩ rfl (Nat.lt_succ_self w2.heap.size))
      go_wp2_with (first | ((with_reducible refine load_blk ?_ 29 (.tmp 7) ?_ X3.out ?_ _ Tryd.underlying29 ?_ ?_ ?_); (iterate 4 rfl); exact rc_sz _ _) | (refine wpList_append_el ER rfl (.tmp 20) (.tmp 22) rfl w.heap.size v M rfl ST4.out.own (w2.heap.size + 1) (some ⟨w2.heap.size, 0, none⟩) 1 1 [⟨{ x.r with se := s }, A', c'⟩] rfl rfl RW.out (by simp; omega) (by have := ST4.out.low.size; exact this) ?_; intro v6 w6 ho6 hg6 hat6))
      have ST5 := Lib.hid (ST4.out.app (y := ⟨{ x.r with se := s }, A', c'⟩) HX.out rfl OC4.out HVF.out ho6 hg6 hat6)
      clear ho6 hg6 hat6
      go_wp2_with fail
      go_roundw
      case rel => exact ⟨k + 1, M ++ [⟨{ x.r with se := s }, A', c'⟩], by omega, by go_num, ST5.out⟩
      case measure => simp [intOf]; omega
    · have hkn : k = n := by omega
      subst hkn
      have d1 : ¬ (k : Int) < (k : Int) := by omega
      obtain ⟨T, c', hf, hT⟩ := ST.out.own.at
      subst hf
      have HT := Lib.hid (show RecsAt wr T M ∧ M.map (·.r) = L.map (fun x => ({ x.r with se := s } : Rc)) from by
        have hrs := ST.out.rs
        rw [show k = L.length from HN.out, List.take_length] at hrs
        refine ⟨⟨hT, fun x hx => ?_, stamp_ln hrs H.out.ln⟩, hrs⟩
        obtain ⟨T', c2, e2, ht2⟩ := (ST.out.ps x hx).1.at
        injection e2 with e2
        rw [e2]; exact ht2)
      have HLM := Lib.hid hML
      rw [show (Value.slice T M.length c') = Value.slice T k c' by rw [hML]]
      clear hML hst
      go_wp2_with fail
      go_ret
      exact ⟨T, c', M, rfl, HLM.out, HT.out.1, HT.out.2, ST.out.low⟩
end Go.Proofs.YtollifnnpihfdaaDoor
