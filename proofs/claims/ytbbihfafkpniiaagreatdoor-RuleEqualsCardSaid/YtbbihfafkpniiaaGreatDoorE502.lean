/- Texts of one proof, laid together. -/
import Derived.Test.YtbbihfafkpniiaaGreatDoorC25
import Derived.Test.YtbbihfafkpniiaaGreatDoorC18
import Derived.Test.YtbbihfafkpniiaaGreatDoorC05
import Derived.Test.YtbbihfafkpniiaaGreatDoorE501
import Derived.Deep.RegionLaw
import Derived.Deep.DeepCutAuto
import Derived.Deep.CutBlock
/- Parse of the reference of layer 12: the test that Format writes as s, or the error. -/
namespace Go.Proofs.YtbbihfafkpniiaaGreatDoor
open Go.RowKit
/-- The reference's try at the field f and the operator o. -/
def RejAt (s : ByteArray) (f o : Nat) : Prop := ∀ V : ByteArray, fieldN f ++ opN o ++ V = s → ¬ (anyE f o (refNu f V) (refTx f V) (numF V) = 0 ∧ testS f o (refNu f V) (refTx f V) (numF V) = s)
def RejF (s : ByteArray) (k : Nat) : Prop := ∀ f o : Nat, 1 ≤ f → f ≤ k → 1 ≤ o → o ≤ 8 → RejAt s f o
def RejO (s : ByteArray) (j q : Nat) : Prop := ∀ o : Nat, 1 ≤ o → o ≤ q → RejAt s j o
theorem RejF.zero (s : ByteArray) : RejF s 0 := fun f o h1 h2 => by omega
theorem RejO.zero (s : ByteArray) (j : Nat) : RejO s j 0 := fun o h1 h2 => by omega
theorem RejF.next {s : ByteArray} {k j : Nat} (h : RejF s k) (hj : j = k + 1) (h2 : RejO s j 8) : RejF s j := fun f o h1 hf ho1 ho2 => by
  by_cases e : f = j
  · subst e; exact h2 o ho1 ho2
  · exact h f o h1 (by omega) ho1 ho2
theorem RejO.next {s : ByteArray} {j q p : Nat} (h : RejO s j q) (hp : p = q + 1) (h2 : RejAt s j p) : RejO s j p := fun o h1 ho => by
  by_cases e : o = p
  · subst e; exact h2
  · exact h o h1 (by omega)
theorem RejF.done {s : ByteArray} (h : RejF s 22) : NoTest s := no_ref fun f o h1 h2 h3 h4 V hV => h f o h1 h2 h3 h4 V hV
theorem rejO_short {s : ByteArray} {j : Nat} (h : s.size < (fieldN j).size) : RejO s j 8 := fun o _ _ V hV => by
  exfalso
  have := congrArg ByteArray.size hV
  rw [ByteArray.size_append, ByteArray.size_append] at this
  omega
theorem app_list (a b c : ByteArray) : (a ++ b ++ c).data.toList = a.data.toList ++ (b.data.toList ++ c.data.toList) := by simp
theorem rejO_other {s : ByteArray} {j : Nat} (h : s.extract 0 (fieldN j).size ≠ fieldN j) : RejO s j 8 := fun o _ _ V hV => by
  exfalso
  apply h
  refine bytes_ext ?_
  rw [ext0, ← hV, app_list, ← bsz' (fieldN j), List.take_left']
  rfl
theorem rejAt_short {s : ByteArray} {j p : Nat} (h : s.size < (fieldN j).size + (opN p).size) : RejAt s j p := fun V hV => by
  exfalso
  have := congrArg ByteArray.size hV
  rw [ByteArray.size_append, ByteArray.size_append] at this
  omega
theorem ext2 (s : ByteArray) (a b : Nat) : (s.extract a b).data.toList = (s.data.toList.drop a).take (b - a) := Lib.extract_data s a b
theorem rejAt_other {s : ByteArray} {j p : Nat} (h : s.extract (fieldN j).size ((fieldN j).size + (opN p).size) ≠ opN p) : RejAt s j p := fun V hV => by
  exfalso
  apply h
  refine bytes_ext ?_
  rw [ext2, ← hV, app_list, ← bsz' (fieldN j), ← bsz' (opN p), List.drop_left' rfl, Nat.add_sub_cancel_left, List.take_left' rfl]
theorem cut_eq {s : ByteArray} {j p : Nat} (h1 : s.extract 0 (fieldN j).size = fieldN j) (h2 : s.extract (fieldN j).size ((fieldN j).size + (opN p).size) = opN p) :
    fieldN j ++ opN p ++ s.extract ((fieldN j).size + (opN p).size) s.size = s := by
  refine bytes_ext ?_
  have e1 : (s.extract 0 (fieldN j).size).data.toList = (fieldN j).data.toList := by rw [h1]
  have e2 : (s.extract (fieldN j).size ((fieldN j).size + (opN p).size)).data.toList = (opN p).data.toList := by rw [h2]
  rw [ext0] at e1
  rw [ext2, Nat.add_sub_cancel_left] at e2
  rw [app_list, ext1, ← e1, ← e2, ← List.drop_drop, List.take_append_drop, List.take_append_drop]
theorem cut_val {s V : ByteArray} {j p : Nat} (h : fieldN j ++ opN p ++ V = s) : V = s.extract ((fieldN j).size + (opN p).size) s.size := by
  refine bytes_ext ?_
  rw [ext1, ← h, app_list, ← List.drop_drop, ← bsz' (fieldN j), ← bsz' (opN p), List.drop_left' rfl, List.drop_left' rfl]
theorem rejAt_no {s V : ByteArray} {j p : Nat} (hV : V = s.extract ((fieldN j).size + (opN p).size) s.size) (h : ¬ (anyE j p (refNu j V) (refTx j V) (numF V) = 0 ∧ testS j p (refNu j V) (refTx j V) (numF V) = s)) : RejAt s j p := fun V' hV' => by
  rw [cut_val hV', ← hV]; exact h
theorem refTx_size (f : Int) (V : ByteArray) : (refTx f V).size ≤ 640 := by
  unfold refTx; split
  · exact unqS_640 V
  · decide
theorem refNu_i64 (f : Int) (V : ByteArray) : I64 (refNu f V) := by
  unfold refNu; split
  · exact rdN_bd V
  · exact i64_zero
theorem ref_other {f : Int} {V : ByteArray} (h : numF V ≠ 0) : refNu f V = 0 ∧ refTx f V = ⟨#[]⟩ := by
  unfold refNu refTx; rw [if_neg (fun c => h c.1), if_neg (fun c => h c.1)]; exact ⟨rfl, rfl⟩
theorem ref_text {f : Int} {V : ByteArray} (h : numF V = 0) (k : textB f = true) : refNu f V = 0 ∧ refTx f V = unqS V := by
  unfold refNu refTx; rw [if_neg (fun c => by rw [k] at c; cases c.2), if_pos ⟨h, k⟩]; exact ⟨rfl, rfl⟩
theorem ref_num {f : Int} {V : ByteArray} (h : numF V = 0) (k : textB f = false) : refNu f V = rdN V ∧ refTx f V = ⟨#[]⟩ := by
  unfold refNu refTx; rw [if_pos ⟨h, k⟩, if_neg (fun c => by rw [k] at c; cases c.2)]; exact ⟨rfl, rfl⟩
attribute [local irreducible] textB numF numS unqS unqE rdN checkF anyE testS fieldN opN opAt cellsN cellsO refNu refTx
set_option maxRecDepth 100000 in
set_option maxHeartbeats 8000000 in
theorem rparseF (s : ByteArray) (hs : s.size ≤ 1000000) (w : World) : Calls Tryz.prog 99 #[.string s] w (FParse s w) := by
  have HZ := Blk.new w (testC 0 0 0 ⟨#[]⟩ 0) 40
  have HB0 : Below w.heap.size w (w.alloc (.cells (testC 0 0 0 ⟨#[]⟩ 0) 40)) := (Below.refl _ _).alloc (Nat.le_refl _) _
  go_enter Tryz.func99, Tryz.ntmps99
  go_wp2_with fail
  go_loopw [4] (fun v wr => ∃ k : Nat, k ≤ 22 ∧ v = .int .i64 ((k + 1 : Nat) : Int) ∧ Hid (RejF s k) ∧ Blk wr w.heap.size 40 (testC 0 0 0 ⟨#[]⟩ 0) ∧ Below w.heap.size w wr) (fun v _ => 24 - (intOf v).toNat)
  case atStart => exact ⟨0, by omega, rfl, RejF.zero s, HZ, HB0⟩
  case round =>
    obtain ⟨k, hk, rfl, hrej, hZ, hb⟩ := hrel
    clear HZ HB0
    by_cases hlt : k < 22
    · obtain ⟨j, hj⟩ : ∃ j, j = k + 1 := ⟨_, rfl⟩
      have HJ := Lib.hid hj
      have j1 : (j : Int) ≤ 22 := by omega
      have j2 : (j : Int) < 23 := by omega
      have j0 : (0 : Int) ≤ (j : Int) := by omega
      have j22 : j ≤ 22 := by omega
      rw [← hj]
      have HNC := Lib.hid (cellsN_at (k := j) (by omega))
      have zn := field_len j
      obtain ⟨n, hn⟩ : ∃ n, (fieldN j).size = n := ⟨_, rfl⟩
      have HNN := Lib.hid hn
      rw [hn] at zn
      clear hj hk hlt
      go_wp2_with fail
      refine (rnames _).mono ?_
      rintro e w1 ⟨rfl, hg1, hb1⟩
      have hc := (hg1.cell j).trans HNC.out
      have HZ1 := Lib.hid (hZ.below hb1)
      have HB1 := Lib.hid (below_then hb hb1)
      clear hZ hb hb1 hg1
      by_cases hsz : s.size < n
      · have HR := Lib.hid (hrej.out.next HJ.out (rejO_short (by rw [HNN.out]; exact hsz)))
        have d1 : decide (s.size < n) = true := decide_eq_true hsz
        clear hsz
        go_wp2_with fail
        go_quiet (fail)
        go_wp2_with fail
        go_roundw
        case rel => exact ⟨j, j22, by go_num, HR.out, HZ1.out.drewN _, below_drewN HB1.out _⟩
        case measure => simp [intOf]; omega
      · have d1 : decide (s.size < n) = false := decide_eq_false hsz
        have n0 : (0 : Int) ≤ (n : Int) := by omega
        have n1 : (n : Int) ≤ (s.size : Int) := by omega
        have hsz' : n ≤ s.size := by omega
        clear hsz
        go_wp2_with fail
        clear hc
        by_cases hpre : s.extract 0 n = fieldN j
        · have e1 := str_eq hpre
          have HPRE := Lib.hid hpre
          clear hpre
          refine wp_region_any (by kernel_rfl) ?_
          change wpAny _ _ _ _ _ _ _ (World.drew _)
          refine wpAny_take (i := 0) (v := ?_) rfl (by kernel_rfl) (by kernel_rfl) (by kernel_rfl) (fun _ _ _ h => h) (Or.inl ⟨by kernel_rfl, ?_⟩) ?_
          rotate_left
          · intro w
            go_simp
            try (with_reducible rfl)
          refine wpAny_take (i := 1) (v := ?_) rfl (by kernel_rfl) (by kernel_rfl) (by kernel_rfl) (fun _ _ _ h => h) (Or.inl ⟨by kernel_rfl, ?_⟩) ?_
          rotate_left
          · intro w
            go_simp
            try (with_reducible rfl)
          refine wpAny_take (i := 2) (v := ?_) rfl (by kernel_rfl) (by kernel_rfl) (by kernel_rfl) (fun _ _ _ h => h) (Or.inl ⟨by kernel_rfl, ?_⟩) ?_
          rotate_left
          · intro w
            go_simp
            try (with_reducible rfl)
          refine wpAny_take (i := 3) (v := ?_) rfl (by kernel_rfl) (by kernel_rfl) (by kernel_rfl) (fun _ _ _ h => h) (Or.inl ⟨by kernel_rfl, ?_⟩) ?_
          rotate_left
          · intro w
            go_simp
            try (with_reducible rfl)
          refine wpAny_take (i := 4) (v := ?_) rfl (by kernel_rfl) (by kernel_rfl) (by kernel_rfl) (fun _ _ _ h => h) (Or.inl ⟨by kernel_rfl, ?_⟩) ?_
          rotate_left
          · intro w
            go_simp
            try (with_reducible rfl)
          refine wpAny_take (i := 5) (v := ?_) rfl (by kernel_rfl) (by kernel_rfl) (by kernel_rfl) (fun _ _ _ h => h) (Or.inl ⟨by kernel_rfl, ?_⟩) ?_
          rotate_left
          · intro w
            go_simp
            try (with_reducible rfl)
          refine wpAny_take (i := 6) (v := ?_) rfl (by kernel_rfl) (by kernel_rfl) (by kernel_rfl) (fun _ _ _ h => h) (Or.inl ⟨by kernel_rfl, ?_⟩) ?_
          rotate_left
          · intro w
            go_simp
            try (with_reducible rfl)
          refine wpAny_take (i := 7) (v := ?_) rfl (by kernel_rfl) (by kernel_rfl) (by kernel_rfl) (fun _ _ _ h => h) (Or.inl ⟨by kernel_rfl, ?_⟩) ?_
          rotate_left
          · intro w
            go_simp
            try (with_reducible rfl)
          refine wpAny_take (i := 9) (v := ?_) rfl (by kernel_rfl) (by kernel_rfl) (by kernel_rfl) (fun _ _ _ h => h) (Or.inl ⟨by kernel_rfl, ?_⟩) ?_
          rotate_left
          · intro w
            go_simp
            try (with_reducible rfl)
          refine wpAny_ready (rs := [8]) (by kernel_rfl) (by simp) ?_
          refine AllReady.cons rfl (fun K hK => ?_) AllReady.nil
          go_simp
          go_at_call 101
          refine (rnames _).mono ?_
          rintro e w5 ⟨rfl, hgo, hb5⟩
          have hco : w5.cell? ⟨w1.heap.size, j, none⟩ = some (.string (fieldN j)) := (hgo.cell j).trans HNC.out
          have HB5 := Lib.hid (below_then HB1.out.drew hb5)
          have HZ5 := Lib.hid (Blk.below (test_drew HZ1.out) hb5)
          clear hgo hb5
          go_simp
          refine hK _ _ ?_
          clear hK K
          refine wpAny_take (i := 10) (v := ?_) rfl (by kernel_rfl) (by kernel_rfl) (by kernel_rfl) (fun _ _ _ h => h) (Or.inl ⟨by kernel_rfl, ?_⟩) ?_
          rotate_left
          · intro w
            go_simp
            try (with_reducible rfl)
          refine wpAny_ready (rs := [11]) (by kernel_rfl) (by simp) ?_
          refine AllReady.cons rfl (fun K hK => ?_) AllReady.nil
          go_simp
          refine hK _ _ ?_
          clear hK K
          refine wpAny_take (i := 12) (v := ?_) rfl (by kernel_rfl) (by kernel_rfl) (by kernel_rfl) (fun _ _ _ h => h) (Or.inl ⟨by kernel_rfl, ?_⟩) ?_
          rotate_left
          · intro w
            go_simp
            try (with_reducible rfl)
          refine wpAny_take (i := 13) (v := ?_) rfl (by kernel_rfl) (by kernel_rfl) (by kernel_rfl) (fun _ _ _ h => h) (Or.inl ⟨by kernel_rfl, ?_⟩) ?_
          rotate_left
          · intro w
            go_simp
            try (with_reducible rfl)
          refine wpAny_done (by kernel_rfl) ?_ _
          all_goals
            go_wp2_with fail
            go_loopw [6] (fun v wr => ∃ q : Nat, q ≤ 8 ∧ v = .int .i64 ((q + 1 : Nat) : Int) ∧ Hid (RejO s j q) ∧ Blk wr w.heap.size 40 (testC 0 0 0 ⟨#[]⟩ 0) ∧ Below w.heap.size w wr) (fun v _ => 10 - (intOf v).toNat)
            case atStart => exact ⟨0, by omega, rfl, RejO.zero s j, HZ5.out, HB5.out⟩
            case round =>
              obtain ⟨q, hq, rfl, hrejo, hZ, hb⟩ := hrel
              clear HZ5 HB5 HZ1 HB1 hco
              by_cases hlt : q < 8
              · obtain ⟨o, ho⟩ : ∃ o, o = q + 1 := ⟨_, rfl⟩
                have HO := Lib.hid ho
                have o1 : (o : Int) ≤ 8 := by omega
                have o2 : (o : Int) < 9 := by omega
                have o0 : (0 : Int) ≤ (o : Int) := by omega
                have o8 : o ≤ 8 := by omega
                rw [← ho]
                have HOC := Lib.hid (cellsO_at (k := o) (by omega))
                have zo := op_len o
                clear ho hq hlt
                go_wp2_with fail
                refine (rops _).mono ?_
                rintro e w6 ⟨rfl, hg6, hb6⟩
                have hc := (hg6.cell o).trans HOC.out
                have HZ6 := Lib.hid (hZ.below hb6)
                have HB6 := Lib.hid (below_then hb hb6)
                clear hZ hb hb6 hg6
                by_cases hsz2 : s.size < n + (opN o).size
                · have HR := Lib.hid (hrejo.out.next HO.out (rejAt_short (by rw [HNN.out]; exact hsz2)))
                  have d2 : decide (s.size < n + (opN o).size) = true := decide_eq_true hsz2
                  have d3 : decide ((s.size : Int) < (n : Int) + ((opN o).size : Int)) = true := decide_eq_true (by omega)
                  clear hsz2
                  go_wp2_with fail
                  go_quiet (fail)
                  go_wp2_with fail
                  go_roundw
                  case rel => exact ⟨o, o8, by go_num, HR.out, HZ6.out.drewN _, below_drewN HB6.out _⟩
                  case measure => simp [intOf]; omega
                · have d2 : decide (s.size < n + (opN o).size) = false := decide_eq_false hsz2
                  have d3 : decide ((s.size : Int) < (n : Int) + ((opN o).size : Int)) = false := decide_eq_false (by omega)
                  have m0 : (0 : Int) ≤ (n : Int) + ((opN o).size : Int) := by omega
                  have m1 : (n : Int) + ((opN o).size : Int) ≤ (s.size : Int) := by omega
                  have m2 : (n : Int) ≤ (n : Int) + ((opN o).size : Int) := by omega
                  have m3 : ((n : Int) + ((opN o).size : Int)).toNat = n + (opN o).size := by omega
                  clear hsz2
                  go_wp2_with fail
                  clear hc
                  by_cases hpre2 : s.extract n (n + (opN o).size) = opN o
                  · have e2 := str_eq hpre2
                    have HPRE2 := Lib.hid hpre2
                    clear hpre2
                    refine wp_region_any (by kernel_rfl) ?_
                    change wpAny _ _ _ _ _ _ _ (World.drew _)
                    refine wpAny_take (i := 0) (v := ?_) rfl (by kernel_rfl) (by kernel_rfl) (by kernel_rfl) (fun _ _ _ h => h) (Or.inl ⟨by kernel_rfl, ?_⟩) ?_
                    rotate_left
                    · intro w
                      go_simp
                      try (with_reducible rfl)
                    refine wpAny_take (i := 1) (v := ?_) rfl (by kernel_rfl) (by kernel_rfl) (by kernel_rfl) (fun _ _ _ h => h) (Or.inl ⟨by kernel_rfl, ?_⟩) ?_
                    rotate_left
                    · intro w
                      go_simp
                      try (with_reducible rfl)
                    refine wpAny_take (i := 2) (v := ?_) rfl (by kernel_rfl) (by kernel_rfl) (by kernel_rfl) (fun _ _ _ h => h) (Or.inl ⟨by kernel_rfl, ?_⟩) ?_
                    rotate_left
                    · intro w
                      go_simp
                      try (with_reducible rfl)
                    refine wpAny_take (i := 3) (v := ?_) rfl (by kernel_rfl) (by kernel_rfl) (by kernel_rfl) (fun _ _ _ h => h) (Or.inl ⟨by kernel_rfl, ?_⟩) ?_
                    rotate_left
                    · intro w
                      go_simp
                      try (with_reducible rfl)
                    refine wpAny_take (i := 4) (v := ?_) rfl (by kernel_rfl) (by kernel_rfl) (by kernel_rfl) (fun _ _ _ h => h) (Or.inl ⟨by kernel_rfl, ?_⟩) ?_
                    rotate_left
                    · intro w
                      go_simp
                      try (with_reducible rfl)
                    refine wpAny_take (i := 5) (v := ?_) rfl (by kernel_rfl) (by kernel_rfl) (by kernel_rfl) (fun _ _ _ h => h) (Or.inl ⟨by kernel_rfl, ?_⟩) ?_
                    rotate_left
                    · intro w
                      go_simp
                      try (with_reducible rfl)
                    refine wpAny_take (i := 6) (v := ?_) rfl (by kernel_rfl) (by kernel_rfl) (by kernel_rfl) (fun _ _ _ h => h) (Or.inl ⟨by kernel_rfl, ?_⟩) ?_
                    rotate_left
                    · intro w
                      go_simp
                      try (with_reducible rfl)
                    refine wpAny_take (i := 7) (v := ?_) rfl (by kernel_rfl) (by kernel_rfl) (by kernel_rfl) (fun _ _ _ h => h) (Or.inl ⟨by kernel_rfl, ?_⟩) ?_
                    rotate_left
                    · intro w
                      go_simp
                      try (with_reducible rfl)
                    refine wpAny_take (i := 8) (v := ?_) rfl (by kernel_rfl) (by kernel_rfl) (by kernel_rfl) (fun _ _ _ h => h) (Or.inl ⟨by kernel_rfl, ?_⟩) ?_
                    rotate_left
                    · intro w
                      go_simp
                      try (with_reducible rfl)
                    refine wpAny_take (i := 10) (v := ?_) rfl (by kernel_rfl) (by kernel_rfl) (by kernel_rfl) (fun _ _ _ h => h) (Or.inl ⟨by kernel_rfl, ?_⟩) ?_
                    rotate_left
                    · intro w
                      go_simp
                      try (with_reducible rfl)
                    refine wpAny_ready (rs := [9]) (by kernel_rfl) (by simp) ?_
                    refine AllReady.cons rfl (fun K hK => ?_) AllReady.nil
                    go_simp
                    go_at_call 64
                    refine (rops _).mono ?_
                    rintro e w7 ⟨rfl, hgp, hb7⟩
                    have hcp : w7.cell? ⟨w6.heap.size, o, none⟩ = some (.string (opN o)) := (hgp.cell o).trans HOC.out
                    have HB7 := Lib.hid (below_then HB6.out.drew hb7)
                    have HZ7 := Lib.hid (Blk.below (test_drew HZ6.out) hb7)
                    clear hgp hb7
                    go_simp
                    refine hK _ _ ?_
                    clear hK K
                    refine wpAny_take (i := 11) (v := ?_) rfl (by kernel_rfl) (by kernel_rfl) (by kernel_rfl) (fun _ _ _ h => h) (Or.inl ⟨by kernel_rfl, ?_⟩) ?_
                    rotate_left
                    · intro w
                      go_simp
                      try (with_reducible rfl)
                    refine wpAny_ready (rs := [12]) (by kernel_rfl) (by simp) ?_
                    refine AllReady.cons rfl (fun K hK => ?_) AllReady.nil
                    go_simp
                    refine hK _ _ ?_
                    clear hK K
                    refine wpAny_take (i := 13) (v := ?_) rfl (by kernel_rfl) (by kernel_rfl) (by kernel_rfl) (fun _ _ _ h => h) (Or.inl ⟨by kernel_rfl, ?_⟩) ?_
                    rotate_left
                    · intro w
                      go_simp
                      try (with_reducible rfl)
                    refine wpAny_take (i := 14) (v := ?_) rfl (by kernel_rfl) (by kernel_rfl) (by kernel_rfl) (fun _ _ _ h => h) (Or.inl ⟨by kernel_rfl, ?_⟩) ?_
                    rotate_left
                    · intro w
                      go_simp
                      try (with_reducible rfl)
                    refine wpAny_done (by kernel_rfl) ?_ _
                    go_wp2_with fail
                    obtain ⟨V, hv⟩ : ∃ V, s.extract (n + (opN o).size) s.size = V := ⟨_, rfl⟩
                    have HV : Hid (V = s.extract ((fieldN j).size + (opN o).size) s.size) := Lib.hid (by rw [HNN.out]; exact hv.symm)
                    have hVs : V.size ≤ 1000000 := by rw [← hv, ByteArray.size_extract]; omega
                    rw [hv]
                    refine (rnumF V _).mono ?_
                    rintro e w8 ⟨rfl, hb8⟩
                    have hZ8 := HZ7.out.below hb8
                    have hB8 := below_then HB7.out hb8
                    clear hb8 HZ7 HB7
                    have hgt : w.heap.size < w8.heap.size := Blk.lt hZ8
                    by_cases hn0 : numF V = 0
                    · rw [hn0]
                      have hZ80 := hZ8
                      have hB80 := hB8
                      have hG8 := Blk.new w8 #[.int .i64 j, .int .i64 o, .int .i64 0, .string ⟨#[]⟩, .int .i64 0] 40
                      have hZ8 := hZ8.alloc (.cells #[.int .i64 j, .int .i64 o, .int .i64 0, .string ⟨#[]⟩, .int .i64 0] 40)
                      have hB8 := hB8.alloc hB8.size (.cells #[.int .i64 j, .int .i64 o, .int .i64 0, .string ⟨#[]⟩, .int .i64 0] 40)
                      have HN0 := Lib.hid hn0
                      clear hn0
                      go_wp2_with fail
                      refine (rtextF j _).mono ?_
                      rintro e w9 ⟨rfl, rfl⟩
                      by_cases ht : textB j = true
                      · rw [ht]
                        have HT := Lib.hid ht
                        clear ht
                        go_wp2_with fail
                        refine (runquote V _ hVs).mono ?_
                        rintro e w9 ⟨rfl, hb9⟩
                        have hG9 := Blk.below hG8 hb9
                        have hZ9 := Blk.below hZ8 hb9
                        have hB9 := below_then hB8 hb9
                        have f3 := Blk.free hG9 3
                        have q4 := Blk.cell hG9 4
                        have q3 := Blk.cell hG9 3
                        have HG9 : Hid (TestB (w9.setCell ⟨w8.heap.size, 3, none⟩ (.string (unqS V))) w8.heap.size j o 0 (unqS V) 0) := Lib.hid (Blk.put hG9 3 (.string (unqS V)))
                        have HZ9 := Lib.hid (Blk.put_other hZ9 (p := ⟨w8.heap.size, 3, none⟩) (.string (unqS V)) (Nat.ne_of_lt hgt))
                        have HB9 := Lib.hid (hB9.setCell (p := ⟨w8.heap.size, 3, none⟩) (Nat.le_of_lt hgt) (.string (unqS V)))
                        have HE := Lib.hid (show refNu (j : Int) V = 0 ∧ refTx (j : Int) V = unqS V ∧ numF V = 0 from ⟨(ref_text HN0.out HT.out).1, (ref_text HN0.out HT.out).2, HN0.out⟩)
                        clear hb9 hG8 hZ8 hB8 hG9 hZ9 hB9 hZ80 hB80
                        go_upto_region 16 with fail
                        clear f3 q4 q3
                        have hx6 : ((unqS V) : ByteArray).size ≤ 640 := by have h := refTx_size (j : Int) V; rw [HE.out.2.1] at h; exact h
                        have HI : I64 0 := by have h := refNu_i64 (j : Int) V; rw [HE.out.1] at h; exact h
                        have hxm : ((unqS V) : ByteArray).size ≤ maxLen := by unfold maxLen; omega
                        obtain ⟨p0, p1, p2, p3, p4⟩ := test_cells HG9.out
                        go_wp2_with fail
                        refine (rformatF j o 0 (unqS V) 0 HI hxm _).mono ?_
                        rintro e w10 ⟨rfl, hb10⟩
                        have HG10 := HG9.out.below hb10
                        have HZ10 := Lib.hid (HZ9.out.below hb10)
                        have HB10 := Lib.hid (below_then HB9.out hb10)
                        clear hb10 HZ9 HB9 p0 p1 p2 p3 p4 HG9
                        by_cases h0 : anyE j o 0 (unqS V) 0 = 0
                        · by_cases hq : testS j o 0 (unqS V) 0 = s
                          · have HS := Lib.hid (show TIs s j o 0 (unqS V) 0 0 from .inl ⟨rfl, h0, hq, HI⟩)
                            have eq := str_eq hq
                            rw [h0]
                            clear h0 hq
                            obtain ⟨p0, p1, p2, p3, p4⟩ := test_cells HG10
                            go_wp2_with ((with_reducible refine store_blk ?_ 40 (.tmp 2) (.tmp 105) ?_ HZ10.out (testC j o 0 (unqS V) 0) ?_ ?_ ?_ ?_ ?_ ?_); (iterate 4 rfl); (exact test_sz _ _ _ _ _); rfl; (exact test_one _ _ _ _ _))
                            refine bodyPost_ret (test_ret2 (fn := Tryz.f99) rfl _ _ w.heap.size _ rfl (HZ10.out.row _) rfl) rfl ?_
                            exact ⟨j, o, 0, (unqS V), 0, 0, rfl, HS.out, hx6, HI, below_row HB10.out (Nat.le_refl _) _⟩
                          · have HR := Lib.hid (hrejo.out.next HO.out (rejAt_no HV.out (fun c => hq (by have h := c.2; rw [HE.out.1, HE.out.2.1, HE.out.2.2] at h; exact h))))
                            have eq := str_ne hq
                            rw [h0]
                            clear h0 hq
                            go_wp2_with fail
                            go_roundw
                            case rel => exact ⟨o, o8, by go_num, HR.out, HZ10.out, HB10.out⟩
                            case measure => simp [intOf]; omega
                        · have HR := Lib.hid (hrejo.out.next HO.out (rejAt_no HV.out (fun c => h0 (by have h := c.1; rw [HE.out.1, HE.out.2.1, HE.out.2.2] at h; exact h))))
                          have b0 : (anyE j o 0 (unqS V) 0 == 0) = false := by simpa using h0
                          clear h0
                          go_wp2_with fail
                          go_roundw
                          case rel => exact ⟨o, o8, by go_num, HR.out, HZ10.out, HB10.out⟩
                          case measure => simp [intOf]; omega
                      · have ht2 : textB j = false := by simpa using ht
                        rw [ht2]
                        have HT := Lib.hid ht2
                        clear ht ht2
                        go_wp2_with fail
                        refine (rread V _ hVs).mono ?_
                        rintro e w9 ⟨rfl, rfl⟩
                        have f2 := Blk.free hG8 2
                        have q2 := Blk.cell hG8 2
                        have HG9 : Hid (TestB _ w8.heap.size j o (rdN V) ⟨#[]⟩ 0) := Lib.hid (Blk.new w8 #[.int .i64 j, .int .i64 o, .int .i64 (rdN V), .string ⟨#[]⟩, .int .i64 0] 40)
                        have HZ9 := Lib.hid (hZ80.alloc (.cells #[.int .i64 j, .int .i64 o, .int .i64 (rdN V), .string ⟨#[]⟩, .int .i64 0] 40))
                        have HB9 := Lib.hid (hB80.alloc hB80.size (.cells #[.int .i64 j, .int .i64 o, .int .i64 (rdN V), .string ⟨#[]⟩, .int .i64 0] 40))
                        have HE := Lib.hid (show refNu (j : Int) V = rdN V ∧ refTx (j : Int) V = ⟨#[]⟩ ∧ numF V = 0 from ⟨(ref_num HN0.out HT.out).1, (ref_num HN0.out HT.out).2, HN0.out⟩)
                        clear hG8 hZ8 hB8 hZ80 hB80
                        go_upto_region 16 with fail
                        clear f2 q2
                        have hx6 : (⟨#[]⟩ : ByteArray).size ≤ 640 := by have h := refTx_size (j : Int) V; rw [HE.out.2.1] at h; exact h
                        have HI : I64 (rdN V) := by have h := refNu_i64 (j : Int) V; rw [HE.out.1] at h; exact h
                        have hxm : (⟨#[]⟩ : ByteArray).size ≤ maxLen := by unfold maxLen; omega
                        obtain ⟨p0, p1, p2, p3, p4⟩ := test_cells HG9.out
                        go_wp2_with fail
                        refine (rformatF j o (rdN V) ⟨#[]⟩ 0 HI hxm _).mono ?_
                        rintro e w10 ⟨rfl, hb10⟩
                        have HG10 := HG9.out.below hb10
                        have HZ10 := Lib.hid (HZ9.out.below hb10)
                        have HB10 := Lib.hid (below_then HB9.out hb10)
                        clear hb10 HZ9 HB9 p0 p1 p2 p3 p4 HG9
                        by_cases h0 : anyE j o (rdN V) ⟨#[]⟩ 0 = 0
                        · by_cases hq : testS j o (rdN V) ⟨#[]⟩ 0 = s
                          · have HS := Lib.hid (show TIs s j o (rdN V) ⟨#[]⟩ 0 0 from .inl ⟨rfl, h0, hq, HI⟩)
                            have eq := str_eq hq
                            rw [h0]
                            clear h0 hq
                            obtain ⟨p0, p1, p2, p3, p4⟩ := test_cells HG10
                            go_wp2_with ((with_reducible refine store_blk ?_ 40 (.tmp 2) (.tmp 105) ?_ HZ10.out (testC j o (rdN V) ⟨#[]⟩ 0) ?_ ?_ ?_ ?_ ?_ ?_); (iterate 4 rfl); (exact test_sz _ _ _ _ _); rfl; (exact test_one _ _ _ _ _))
                            refine bodyPost_ret (test_ret2 (fn := Tryz.f99) rfl _ _ w.heap.size _ rfl (HZ10.out.row _) rfl) rfl ?_
                            exact ⟨j, o, (rdN V), ⟨#[]⟩, 0, 0, rfl, HS.out, hx6, HI, below_row HB10.out (Nat.le_refl _) _⟩
                          · have HR := Lib.hid (hrejo.out.next HO.out (rejAt_no HV.out (fun c => hq (by have h := c.2; rw [HE.out.1, HE.out.2.1, HE.out.2.2] at h; exact h))))
                            have eq := str_ne hq
                            rw [h0]
                            clear h0 hq
                            go_wp2_with fail
                            go_roundw
                            case rel => exact ⟨o, o8, by go_num, HR.out, HZ10.out, HB10.out⟩
                            case measure => simp [intOf]; omega
                        · have HR := Lib.hid (hrejo.out.next HO.out (rejAt_no HV.out (fun c => h0 (by have h := c.1; rw [HE.out.1, HE.out.2.1, HE.out.2.2] at h; exact h))))
                          have b0 : (anyE j o (rdN V) ⟨#[]⟩ 0 == 0) = false := by simpa using h0
                          clear h0
                          go_wp2_with fail
                          go_roundw
                          case rel => exact ⟨o, o8, by go_num, HR.out, HZ10.out, HB10.out⟩
                          case measure => simp [intOf]; omega
                    · have nb : (numF V == 0) = false := by simpa using hn0
                      have hG8 := Blk.new w8 #[.int .i64 j, .int .i64 o, .int .i64 0, .string ⟨#[]⟩, .int .i64 (numF V)] 40
                      have hZ8 := hZ8.alloc (.cells #[.int .i64 j, .int .i64 o, .int .i64 0, .string ⟨#[]⟩, .int .i64 (numF V)] 40)
                      have hB8 := hB8.alloc hB8.size (.cells #[.int .i64 j, .int .i64 o, .int .i64 0, .string ⟨#[]⟩, .int .i64 (numF V)] 40)
                      have HE := Lib.hid (show refNu (j : Int) V = 0 ∧ refTx (j : Int) V = ⟨#[]⟩ ∧ numF V = numF V from ⟨(ref_other hn0).1, (ref_other hn0).2, rfl⟩)
                      have HG9 : Hid (TestB _ w8.heap.size j o 0 ⟨#[]⟩ (numF V)) := Lib.hid hG8
                      have HZ9 := Lib.hid hZ8
                      have HB9 := Lib.hid hB8
                      clear hn0 hG8 hZ8 hB8
                      go_upto_region 16 with fail
                      clear nb
                      have hx6 : (⟨#[]⟩ : ByteArray).size ≤ 640 := by have h := refTx_size (j : Int) V; rw [HE.out.2.1] at h; exact h
                      have HI : I64 0 := by have h := refNu_i64 (j : Int) V; rw [HE.out.1] at h; exact h
                      have hxm : (⟨#[]⟩ : ByteArray).size ≤ maxLen := by unfold maxLen; omega
                      obtain ⟨p0, p1, p2, p3, p4⟩ := test_cells HG9.out
                      go_wp2_with fail
                      refine (rformatF j o 0 ⟨#[]⟩ (numF V) HI hxm _).mono ?_
                      rintro e w10 ⟨rfl, hb10⟩
                      have HG10 := HG9.out.below hb10
                      have HZ10 := Lib.hid (HZ9.out.below hb10)
                      have HB10 := Lib.hid (below_then HB9.out hb10)
                      clear hb10 HZ9 HB9 p0 p1 p2 p3 p4 HG9
                      by_cases h0 : anyE j o 0 ⟨#[]⟩ (numF V) = 0
                      · by_cases hq : testS j o 0 ⟨#[]⟩ (numF V) = s
                        · have HS := Lib.hid (show TIs s j o 0 ⟨#[]⟩ (numF V) 0 from .inl ⟨rfl, h0, hq, HI⟩)
                          have eq := str_eq hq
                          rw [h0]
                          clear h0 hq
                          obtain ⟨p0, p1, p2, p3, p4⟩ := test_cells HG10
                          go_wp2_with ((with_reducible refine store_blk ?_ 40 (.tmp 2) (.tmp 105) ?_ HZ10.out (testC j o 0 ⟨#[]⟩ (numF V)) ?_ ?_ ?_ ?_ ?_ ?_); (iterate 4 rfl); (exact test_sz _ _ _ _ _); rfl; (exact test_one _ _ _ _ _))
                          refine bodyPost_ret (test_ret2 (fn := Tryz.f99) rfl _ _ w.heap.size _ rfl (HZ10.out.row _) rfl) rfl ?_
                          exact ⟨j, o, 0, ⟨#[]⟩, (numF V), 0, rfl, HS.out, hx6, HI, below_row HB10.out (Nat.le_refl _) _⟩
                        · have HR := Lib.hid (hrejo.out.next HO.out (rejAt_no HV.out (fun c => hq (by have h := c.2; rw [HE.out.1, HE.out.2.1] at h; exact h))))
                          have eq := str_ne hq
                          rw [h0]
                          clear h0 hq
                          go_wp2_with fail
                          go_roundw
                          case rel => exact ⟨o, o8, by go_num, HR.out, HZ10.out, HB10.out⟩
                          case measure => simp [intOf]; omega
                      · have HR := Lib.hid (hrejo.out.next HO.out (rejAt_no HV.out (fun c => h0 (by have h := c.1; rw [HE.out.1, HE.out.2.1] at h; exact h))))
                        have b0 : (anyE j o 0 ⟨#[]⟩ (numF V) == 0) = false := by simpa using h0
                        clear h0
                        go_wp2_with fail
                        go_roundw
                        case rel => exact ⟨o, o8, by go_num, HR.out, HZ10.out, HB10.out⟩
                        case measure => simp [intOf]; omega
                  · have e2 := str_ne hpre2
                    have HR := Lib.hid (hrejo.out.next HO.out (rejAt_other (by rw [HNN.out]; exact hpre2)))
                    clear hpre2
                    refine wp_region_any (by kernel_rfl) ?_
                    change wpAny _ _ _ _ _ _ _ (World.drew _)
                    refine wpAny_take (i := 0) (v := ?_) rfl (by kernel_rfl) (by kernel_rfl) (by kernel_rfl) (fun _ _ _ h => h) (Or.inl ⟨by kernel_rfl, ?_⟩) ?_
                    rotate_left
                    · intro w
                      go_simp
                      try (with_reducible rfl)
                    refine wpAny_take (i := 1) (v := ?_) rfl (by kernel_rfl) (by kernel_rfl) (by kernel_rfl) (fun _ _ _ h => h) (Or.inl ⟨by kernel_rfl, ?_⟩) ?_
                    rotate_left
                    · intro w
                      go_simp
                      try (with_reducible rfl)
                    refine wpAny_take (i := 2) (v := ?_) rfl (by kernel_rfl) (by kernel_rfl) (by kernel_rfl) (fun _ _ _ h => h) (Or.inl ⟨by kernel_rfl, ?_⟩) ?_
                    rotate_left
                    · intro w
                      go_simp
                      try (with_reducible rfl)
                    refine wpAny_take (i := 3) (v := ?_) rfl (by kernel_rfl) (by kernel_rfl) (by kernel_rfl) (fun _ _ _ h => h) (Or.inl ⟨by kernel_rfl, ?_⟩) ?_
                    rotate_left
                    · intro w
                      go_simp
                      try (with_reducible rfl)
                    refine wpAny_take (i := 4) (v := ?_) rfl (by kernel_rfl) (by kernel_rfl) (by kernel_rfl) (fun _ _ _ h => h) (Or.inl ⟨by kernel_rfl, ?_⟩) ?_
                    rotate_left
                    · intro w
                      go_simp
                      try (with_reducible rfl)
                    refine wpAny_take (i := 5) (v := ?_) rfl (by kernel_rfl) (by kernel_rfl) (by kernel_rfl) (fun _ _ _ h => h) (Or.inl ⟨by kernel_rfl, ?_⟩) ?_
                    rotate_left
                    · intro w
                      go_simp
                      try (with_reducible rfl)
                    refine wpAny_take (i := 6) (v := ?_) rfl (by kernel_rfl) (by kernel_rfl) (by kernel_rfl) (fun _ _ _ h => h) (Or.inl ⟨by kernel_rfl, ?_⟩) ?_
                    rotate_left
                    · intro w
                      go_simp
                      try (with_reducible rfl)
                    refine wpAny_take (i := 7) (v := ?_) rfl (by kernel_rfl) (by kernel_rfl) (by kernel_rfl) (fun _ _ _ h => h) (Or.inl ⟨by kernel_rfl, ?_⟩) ?_
                    rotate_left
                    · intro w
                      go_simp
                      try (with_reducible rfl)
                    refine wpAny_take (i := 8) (v := ?_) rfl (by kernel_rfl) (by kernel_rfl) (by kernel_rfl) (fun _ _ _ h => h) (Or.inl ⟨by kernel_rfl, ?_⟩) ?_
                    rotate_left
                    · intro w
                      go_simp
                      try (with_reducible rfl)
                    refine wpAny_take (i := 10) (v := ?_) rfl (by kernel_rfl) (by kernel_rfl) (by kernel_rfl) (fun _ _ _ h => h) (Or.inl ⟨by kernel_rfl, ?_⟩) ?_
                    rotate_left
                    · intro w
                      go_simp
                      try (with_reducible rfl)
                    refine wpAny_ready (rs := [9]) (by kernel_rfl) (by simp) ?_
                    refine AllReady.cons rfl (fun K hK => ?_) AllReady.nil
                    go_simp
                    go_at_call 64
                    refine (rops _).mono ?_
                    rintro e w7 ⟨rfl, hgp, hb7⟩
                    have hcp : w7.cell? ⟨w6.heap.size, o, none⟩ = some (.string (opN o)) := (hgp.cell o).trans HOC.out
                    have HB7 := Lib.hid (below_then HB6.out.drew hb7)
                    have HZ7 := Lib.hid (Blk.below (test_drew HZ6.out) hb7)
                    clear hgp hb7
                    go_simp
                    refine hK _ _ ?_
                    clear hK K
                    refine wpAny_take (i := 11) (v := ?_) rfl (by kernel_rfl) (by kernel_rfl) (by kernel_rfl) (fun _ _ _ h => h) (Or.inl ⟨by kernel_rfl, ?_⟩) ?_
                    rotate_left
                    · intro w
                      go_simp
                      try (with_reducible rfl)
                    refine wpAny_ready (rs := [12]) (by kernel_rfl) (by simp) ?_
                    refine AllReady.cons rfl (fun K hK => ?_) AllReady.nil
                    go_simp
                    refine hK _ _ ?_
                    clear hK K
                    refine wpAny_take (i := 13) (v := ?_) rfl (by kernel_rfl) (by kernel_rfl) (by kernel_rfl) (fun _ _ _ h => h) (Or.inl ⟨by kernel_rfl, ?_⟩) ?_
                    rotate_left
                    · intro w
                      go_simp
                      try (with_reducible rfl)
                    refine wpAny_take (i := 14) (v := ?_) rfl (by kernel_rfl) (by kernel_rfl) (by kernel_rfl) (fun _ _ _ h => h) (Or.inl ⟨by kernel_rfl, ?_⟩) ?_
                    rotate_left
                    · intro w
                      go_simp
                      try (with_reducible rfl)
                    refine wpAny_done (by kernel_rfl) ?_ _
                    all_goals
                      go_wp2_with fail
                      go_roundw
                      case rel => exact ⟨o, o8, by go_num, HR.out, HZ7.out, HB7.out⟩
                      case measure => simp [intOf]; omega
              · obtain rfl : q = 8 := by omega
                have HR := Lib.hid (hrej.out.next HJ.out hrejo.out)
                go_wp2_with fail
                go_roundw
                case rel => exact ⟨j, j22, by go_num, HR.out, hZ, hb⟩
                case measure => simp [intOf]; omega
        · have e1 := str_ne hpre
          have HR := Lib.hid (hrej.out.next HJ.out (rejO_other (by rw [HNN.out]; exact hpre)))
          clear hpre
          refine wp_region_any (by kernel_rfl) ?_
          change wpAny _ _ _ _ _ _ _ (World.drew _)
          refine wpAny_take (i := 0) (v := ?_) rfl (by kernel_rfl) (by kernel_rfl) (by kernel_rfl) (fun _ _ _ h => h) (Or.inl ⟨by kernel_rfl, ?_⟩) ?_
          rotate_left
          · intro w
            go_simp
            try (with_reducible rfl)
          refine wpAny_take (i := 1) (v := ?_) rfl (by kernel_rfl) (by kernel_rfl) (by kernel_rfl) (fun _ _ _ h => h) (Or.inl ⟨by kernel_rfl, ?_⟩) ?_
          rotate_left
          · intro w
            go_simp
            try (with_reducible rfl)
          refine wpAny_take (i := 2) (v := ?_) rfl (by kernel_rfl) (by kernel_rfl) (by kernel_rfl) (fun _ _ _ h => h) (Or.inl ⟨by kernel_rfl, ?_⟩) ?_
          rotate_left
          · intro w
            go_simp
            try (with_reducible rfl)
          refine wpAny_take (i := 3) (v := ?_) rfl (by kernel_rfl) (by kernel_rfl) (by kernel_rfl) (fun _ _ _ h => h) (Or.inl ⟨by kernel_rfl, ?_⟩) ?_
          rotate_left
          · intro w
            go_simp
            try (with_reducible rfl)
          refine wpAny_take (i := 4) (v := ?_) rfl (by kernel_rfl) (by kernel_rfl) (by kernel_rfl) (fun _ _ _ h => h) (Or.inl ⟨by kernel_rfl, ?_⟩) ?_
          rotate_left
          · intro w
            go_simp
            try (with_reducible rfl)
          refine wpAny_take (i := 5) (v := ?_) rfl (by kernel_rfl) (by kernel_rfl) (by kernel_rfl) (fun _ _ _ h => h) (Or.inl ⟨by kernel_rfl, ?_⟩) ?_
          rotate_left
          · intro w
            go_simp
            try (with_reducible rfl)
          refine wpAny_take (i := 6) (v := ?_) rfl (by kernel_rfl) (by kernel_rfl) (by kernel_rfl) (fun _ _ _ h => h) (Or.inl ⟨by kernel_rfl, ?_⟩) ?_
          rotate_left
          · intro w
            go_simp
            try (with_reducible rfl)
          refine wpAny_take (i := 7) (v := ?_) rfl (by kernel_rfl) (by kernel_rfl) (by kernel_rfl) (fun _ _ _ h => h) (Or.inl ⟨by kernel_rfl, ?_⟩) ?_
          rotate_left
          · intro w
            go_simp
            try (with_reducible rfl)
          refine wpAny_take (i := 9) (v := ?_) rfl (by kernel_rfl) (by kernel_rfl) (by kernel_rfl) (fun _ _ _ h => h) (Or.inl ⟨by kernel_rfl, ?_⟩) ?_
          rotate_left
          · intro w
            go_simp
            try (with_reducible rfl)
          refine wpAny_ready (rs := [8]) (by kernel_rfl) (by simp) ?_
          refine AllReady.cons rfl (fun K hK => ?_) AllReady.nil
          go_simp
          go_at_call 101
          refine (rnames _).mono ?_
          rintro e w5 ⟨rfl, hgo, hb5⟩
          have hco : w5.cell? ⟨w1.heap.size, j, none⟩ = some (.string (fieldN j)) := (hgo.cell j).trans HNC.out
          have HB5 := Lib.hid (below_then HB1.out.drew hb5)
          have HZ5 := Lib.hid (Blk.below (test_drew HZ1.out) hb5)
          clear hgo hb5
          go_simp
          refine hK _ _ ?_
          clear hK K
          refine wpAny_take (i := 10) (v := ?_) rfl (by kernel_rfl) (by kernel_rfl) (by kernel_rfl) (fun _ _ _ h => h) (Or.inl ⟨by kernel_rfl, ?_⟩) ?_
          rotate_left
          · intro w
            go_simp
            try (with_reducible rfl)
          refine wpAny_ready (rs := [11]) (by kernel_rfl) (by simp) ?_
          refine AllReady.cons rfl (fun K hK => ?_) AllReady.nil
          go_simp
          refine hK _ _ ?_
          clear hK K
          refine wpAny_take (i := 12) (v := ?_) rfl (by kernel_rfl) (by kernel_rfl) (by kernel_rfl) (fun _ _ _ h => h) (Or.inl ⟨by kernel_rfl, ?_⟩) ?_
          rotate_left
          · intro w
            go_simp
            try (with_reducible rfl)
          refine wpAny_take (i := 13) (v := ?_) rfl (by kernel_rfl) (by kernel_rfl) (by kernel_rfl) (fun _ _ _ h => h) (Or.inl ⟨by kernel_rfl, ?_⟩) ?_
          rotate_left
          · intro w
            go_simp
            try (with_reducible rfl)
          refine wpAny_done (by kernel_rfl) ?_ _
          all_goals
            go_wp2_with fail
            go_roundw
            case rel => exact ⟨j, j22, by go_num, HR.out, HZ5.out, HB5.out⟩
            case measure => simp [intOf]; omega
    · obtain rfl : k = 22 := by omega
      have HR := Lib.hid hrej.out.done
      have HZH := Lib.hid hZ
      have HBH := Lib.hid hb
      clear hZ hb
      go_wp2_with ((with_reducible refine store_blk ?_ 40 (.tmp 2) (.tmp 106) ?_ HZH.out (testC 0 0 0 ⟨#[]⟩ 0) ?_ ?_ ?_ ?_ ?_ ?_); (iterate 4 rfl); (exact test_sz _ _ _ _ _); rfl; (exact test_one _ _ _ _ _))
      refine bodyPost_ret (test_ret2 (fn := Tryz.f99) rfl _ _ w.heap.size _ rfl (HZH.out.row _) rfl) rfl ?_
      exact ⟨0, 0, 0, ⟨#[]⟩, 0, 123, rfl, tis_bad HR.out, by decide, i64_zero, below_row HBH.out (Nat.le_refl _) _⟩
end Go.Proofs.YtbbihfafkpniiaaGreatDoor
