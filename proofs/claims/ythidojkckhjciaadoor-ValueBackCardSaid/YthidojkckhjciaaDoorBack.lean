/- The walk of the law ValueBack. -/
import Derived.Test.YthidojkckhjciaaDoorBuilt
import Derived.Test.YthidojkckhjciaaDoorPairs
namespace Go.Proofs.YthidojkckhjciaaDoor
open Go.RowKit
/-- A byte that is neither a space nor a line feed nor any other control byte. -/
def visB (c : UInt8) : Bool := decide (33 ≤ c.toNat) && decide (c.toNat ≤ 126)
theorem okc_vis {c : UInt8} (h : okc c = true) : visB c = true := by unfold okc at h; unfold visB; simp at *; omega
theorem dig_vis {c : UInt8} (h : digB c = true) : visB c = true := by unfold digB at h; unfold visB; simp at *; omega
theorem hexd_vis (n : Nat) (h : n < 16) : visB (hexd n) = true := by
  unfold hexd visB
  split <;> (rw [UInt8.toNat_ofNat']; simp; omega)
theorem hexL_vis (l : List UInt8) : (hexL l).all visB = true := by
  induction l with
  | nil => rfl
  | cons c l ih =>
    have e : hexL (c :: l) = hex2 c ++ hexL l := rfl
    rw [e, List.all_append, ih]
    have hc := c.toNat_lt
    simp [hex2, hexd_vis (c.toNat / 16) (by omega), hexd_vis (c.toNat % 16) (by omega)]
theorem quoteL_vis (l : List UInt8) : (quoteL l).all visB = true := by
  unfold quoteL
  split
  · rename_i h
    rw [List.all_cons, List.all_append]
    have : l.all visB = true := List.all_eq_true.2 fun c hc => okc_vis (List.all_eq_true.1 h c hc)
    rw [this]; rfl
  · rw [List.all_cons, hexL_vis]; rfl
theorem itoa_vis (n : Int) : (Lib.itoa n).all visB = true := by
  have hd : ∀ u : Nat, (Lib.decDigits u).all visB = true := fun u => List.all_eq_true.2 fun c hc => dig_vis (List.all_eq_true.1 (dec_props u).2.1 c hc)
  unfold Lib.itoa
  split
  · rw [List.all_cons, hd]; rfl
  · exact hd _
theorem name_vis {s : ByteArray} (h : nameB s.data.toList = true) : s.data.toList.all visB = true := by
  have h0 := (name_size h).2
  rw [name_eq s h0] at h
  simp only [Bool.and_eq_true] at h
  refine List.all_eq_true.2 fun c hc => ?_
  have := List.all_eq_true.1 h.2 c hc
  unfold nmd nma at this
  unfold visB
  simp at *
  omega
theorem fmt_vis {nm : ByteArray} {kd nu : Int} {tx : ByteArray} (h : checkE nm kd nu tx = 0) : (fmtS nm kd nu tx).data.toList.all visB = true := by
  obtain ⟨c1, c2, c3⟩ := checkE_zero h
  rw [fmtS_list h, List.all_append, List.all_cons, name_vis c1]
  have : (textL kd nu tx).all visB = true := by
    unfold textL
    split
    · exact itoa_vis _
    · split
      · exact quoteL_vis _
      · decide
  rw [this]; rfl
theorem eight {w : World} {g : Nat} {t : TypeId} {nm nm' : ByteArray} {kd nu kd' nu' : Int} {tx tx' : ByteArray} (h : Blk w g t #[.string nm, .int .i64 kd, .int .i64 nu, .string tx, .string nm', .int .i64 kd', .int .i64 nu', .string tx']) (k : Nat) (hk : k < 2) :
    ∃ (n2 : ByteArray) (k2 u2 : Int) (t2 : ByteArray), w.cell? ⟨g, k * 4, none⟩ = some (.string n2) ∧ w.cell? ⟨g, k * 4 + 1, none⟩ = some (.int .i64 k2) ∧ w.cell? ⟨g, k * 4 + 2, none⟩ = some (.int .i64 u2) ∧ w.cell? ⟨g, k * 4 + 3, none⟩ = some (.string t2) ∧ ((n2 = nm ∧ k2 = kd ∧ u2 = nu ∧ t2 = tx) ∨ (n2 = nm' ∧ k2 = kd' ∧ u2 = nu' ∧ t2 = tx')) := by
  match k, hk with
  | 0, _ => exact ⟨nm, kd, nu, tx, h.cell 0, h.cell 1, h.cell 2, h.cell 3, .inl ⟨rfl, rfl, rfl, rfl⟩⟩
  | 1, _ => exact ⟨nm', kd', nu', tx', h.cell 4, h.cell 5, h.cell 6, h.cell 7, .inr ⟨rfl, rfl, rfl, rfl⟩⟩
theorem fmt_le2 (nm : ByteArray) (kd nu : Int) (tx : ByteArray) (h1 : nm.size ≤ 100) (h6 : tx.size ≤ 640) (h4 : -9223372036854775808 ≤ nu) (h5 : nu ≤ 9223372036854775807) : (fmtS nm kd nu tx).size ≤ 2000 := by
  unfold fmtS
  split
  · have e : (nm ++ (⟨#[61]⟩ : ByteArray) ++ textS kd nu tx).size = nm.size + 1 + (textS kd nu tx).size := by rw [ByteArray.size_append, ByteArray.size_append]; rfl
    have ht : (textS kd nu tx).size ≤ 1500 := by
      unfold textS
      split
      · have := numS_size nu h4 h5; omega
      · split
        · rcases quoteS_size tx (by omega) with h | h <;> omega
        · decide
    omega
  · decide
theorem vis_at {s : ByteArray} (h : s.data.toList.all visB = true) {k : Nat} (hk : k < s.size) : 33 ≤ (s[k].toNat : Int) ∧ (s[k].toNat : Int) ≤ 126 := by
  have := List.all_eq_true.1 h s[k] (Array.mem_toList_iff.2 (Array.getElem_mem (xs := s.data) hk))
  unfold visB at this
  simp at this; omega
attribute [local irreducible] checkE fmtS
attribute [local go_sem ↓] Go.wp_at_zero Go.wp_at_succ
theorem box4 {nm : ByteArray} {kd nu : Int} {tx : ByteArray} {g : Nat} {w' : World} (h : PBlk w' g nm kd nu tx) : PBlk w' g nm kd nu tx ∧ w'.cell? ⟨g, 0, none⟩ = some (.string nm) ∧ w'.cell? ⟨g, 1, none⟩ = some (.int .i64 kd) ∧ w'.cell? ⟨g, 2, none⟩ = some (.int .i64 nu) ∧ w'.cell? ⟨g, 3, none⟩ = some (.string tx) := ⟨h, h.cells⟩
set_option maxRecDepth 100000 in
set_option maxHeartbeats 4000000 in
theorem valueBack_walk (nm : ByteArray) (kd nu : Int) (tx : ByteArray) (w : World) (A : Option Addr) (n c : Nat) (hm : nm.size ≤ maxLen) (ht : tx.size ≤ maxLen) (h0 : -9223372036854775808 ≤ nu) (h1 : nu ≤ 9223372036854775807) (hn : (n : Int) ≤ 9223372036854775807)
    (hl : ∀ k, k < n → ∃ (ad : Addr) (z : Int), A = some ad ∧ ad.block < w.heap.size ∧ w.cell? (ad.add k) = some (.int .i64 z) ∧ -9223372036854775808 ≤ z ∧ z ≤ 9223372036854775807) (he : Env w) :
    Calls Tryd.prog 10 #[pairV nm kd nu tx, .slice A n c] w fun e w' => e = .returned (.bool true) ∧ Below w.heap.size w w' := by
  have HL := Lib.hid (show ∀ k, k < n → ∃ (ad : Addr) (z : Int), A = some ad ∧ ad.block < (w.alloc (pairO nm kd nu tx)).heap.size ∧ (w.alloc (pairO nm kd nu tx)).cell? (ad.add k) = some (.int .i64 z) ∧ -9223372036854775808 ≤ z ∧ z ≤ 9223372036854775807 from fun k hk => by
    obtain ⟨ad, z, e, hb, hc, hz⟩ := hl k hk
    exact ⟨ad, z, e, by simp; omega, (World.cell?_of_block (by rw [block_add]; exact Below.heap_alloc w _ _ hb)).trans hc, hz⟩)
  have HN := Lib.hid hn
  have HE := Lib.hid (fun (W : World) (h : Below w.heap.size w W) => he.below h)
  clear hl hn he
  unfold maxLen at hm ht
  by_cases c1 : tx.size ≤ 640
  · by_cases c2 : nm.size ≤ 100
    · clear hm ht
      go_enter Tryd.func10, Tryd.ntmps10
      go_wp2_with fail
      obtain ⟨B0, p0, p1, p2, p3⟩ := box4 (show PBlk (w.alloc (pairO nm kd nu tx)) w.heap.size nm kd nu tx from heap_alloc_new w _)
      have b0 : Below w.heap.size w (w.alloc (pairO nm kd nu tx)) := (Below.refl _ _).alloc (Nat.le_refl _) _
      have hs0 : w.heap.size < (w.alloc (pairO nm kd nu tx)).heap.size := by simp
      generalize w.alloc (pairO nm kd nu tx) = w0 at *
      go_region_held3 (fun w' => PBlk w' w.heap.size nm kd nu tx ∧ w'.cell? ⟨w.heap.size, 0, none⟩ = some (.string nm) ∧ w'.cell? ⟨w.heap.size, 1, none⟩ = some (.int .i64 kd) ∧ w'.cell? ⟨w.heap.size, 2, none⟩ = some (.int .i64 nu) ∧ w'.cell? ⟨w.heap.size, 3, none⟩ = some (.string tx))
        (first | exact box4 B0 | exact box4 B1 | exact box4 B2 | exact box4 (PBlk.alloc (And.left (by assumption)) _))
        (first
          | (go_at_call 20; refine (src_new w0.drew A n c HN.out HL.out).mono ?_; rintro e w1 ⟨rfl, hs1, hb1⟩; have B1 := pb_below (w := w0.drew) B0 hb1)
          | (go_at_call 21; refine (src_pair _ w0.heap.size w0.heap.size 0 hs1 (by omega)).mono ?_; rintro e w2 ⟨nm', kd', nu', tx', rfl, k1, k2, k3, k4, k5, k6, hs2, hg2⟩; have B2 := PBlk.only B1 hg2 (by omega)))
      have b1 := b0.drew.trans (hb1.mono (show w.heap.size ≤ w0.drew.heap.size by show _ ≤ w0.heap.size; omega))
      have hs21 : w0.heap.size < w1.heap.size := src_lt hs1
      have b2 : Below w.heap.size w w2 := below_only b1 hg2 (by omega) (by omega)
      have hsz2 : w.heap.size ≤ w2.heap.size := b2.size
      clear B0 B1 B2 p0 p1 p2 p3 hs1 hb1 hs2 hg2 b0 b1 HL HN
      go_wp2_with fail
      go_loopw [6] (fun i wr => ∃ k : Nat, k ≤ 2 ∧ i = .int .i64 k ∧ Below (w2.heap.size + 1) (w2.alloc (.cells #[.string nm, .int .i64 kd, .int .i64 nu, .string tx, .string nm', .int .i64 kd', .int .i64 nu', .string tx'] 31)) wr) (fun i _ => 2 - (intOf i).toNat)
      case atStart => exact ⟨0, by omega, rfl, Below.refl _ _⟩
      case round =>
        obtain ⟨k, hk, rfl, hb⟩ := hrel
        have hbw : Below w.heap.size w wr := b2.trans ((unbox hb).mono hsz2)
        by_cases hlt : k < 2
        · obtain ⟨n2, k2', u2, t2, q0, q1, q2, q3, hcs⟩ := eight ((Blk.new w2 _ _).keep hb (by omega)) k hlt
          have z1 : n2.size ≤ 100 := by rcases hcs with ⟨rfl, _⟩ | ⟨rfl, _⟩ <;> omega
          have z2 : t2.size ≤ 640 := by rcases hcs with ⟨_, _, _, rfl⟩ | ⟨_, _, _, rfl⟩ <;> omega
          have z3 : -9223372036854775808 ≤ u2 ∧ u2 ≤ 9223372036854775807 := by rcases hcs with ⟨_, _, rfl, _⟩ | ⟨_, _, rfl, _⟩ <;> omega
          clear hcs
          go_wp2_with fail
          refine (vformat n2 k2' u2 t2 _ (by unfold maxLen; omega) (by unfold maxLen; omega) z3.1 z3.2 (HE.out _ hbw).tab (HE.out _ hbw).pow).mono ?_
          rintro e w3 ⟨rfl, hb3⟩
          have c3 : Below (w2.heap.size + 1) (w2.alloc (.cells #[.string nm, .int .i64 kd, .int .i64 nu, .string tx, .string nm', .int .i64 kd', .int .i64 nu', .string tx'] 31)) w3 := hb.trans (hb3.mono (by have := hb.size; simp at this; omega))
          have hbw3 := below_then hbw hb3
          have r0 := (hb3.cell (p := ⟨w2.heap.size, k * 4, none⟩) (block_lt_of_cell q0)).trans q0
          have r1 := (hb3.cell (p := ⟨w2.heap.size, k * 4 + 1, none⟩) (block_lt_of_cell q1)).trans q1
          have r2 := (hb3.cell (p := ⟨w2.heap.size, k * 4 + 2, none⟩) (block_lt_of_cell q2)).trans q2
          have r3 := (hb3.cell (p := ⟨w2.heap.size, k * 4 + 3, none⟩) (block_lt_of_cell q3)).trans q3
          clear hb hb3 hbw q0 q1 q2 q3
          by_cases hck : checkE n2 k2' u2 t2 = 0
          · have HP := Lib.hid (show PIs (fmtS n2 k2' u2 t2) n2 k2' u2 t2 0 from .inl ⟨rfl, hck, rfl, z3⟩)
            have HV := Lib.hid (fmt_vis hck)
            have hfs : (fmtS n2 k2' u2 t2).size ≤ 2000 := fmt_le2 n2 k2' u2 t2 z1 z2 z3.1 z3.2
            rw [hck]
            clear hck
            generalize fmtS n2 k2' u2 t2 = fs at *
            go_wp2_with fail
            refine (vparse fs (by omega) _ (HE.out _ hbw3)).mono ?_
            rintro e w4 ⟨nm5, kd5, nu5, tx5, er5, rfl, hp5, hb4⟩
            obtain ⟨e1, e2, e3, e4, e5⟩ := hp5.unique HP.out
            rw [e1, e2, e3, e4, e5]
            clear hp5 e1 e2 e3 e4 e5 HP
            have c4 : Below (w2.heap.size + 1) (w2.alloc (.cells #[.string nm, .int .i64 kd, .int .i64 nu, .string tx, .string nm', .int .i64 kd', .int .i64 nu', .string tx'] 31)) w4 := c3.trans (hb4.mono (by have := c3.size; simp at this; omega))
            have hsz4 := c4.size
            simp at hsz4
            have c5 := c4.alloc hsz4 (.cells #[.string n2, .int .i64 k2', .int .i64 u2, .string t2] 31)
            have P5 := Blk.new w4 #[.string n2, .int .i64 k2', .int .i64 u2, .string t2] 31
            have hb5 := hb4.alloc hb4.size (.cells #[.string n2, .int .i64 k2', .int .i64 u2, .string t2] 31)
            have s0 := (hb5.cell (p := ⟨w2.heap.size, k * 4, none⟩) (block_lt_of_cell r0)).trans r0
            have s1 := (hb5.cell (p := ⟨w2.heap.size, k * 4 + 1, none⟩) (block_lt_of_cell r1)).trans r1
            have s2 := (hb5.cell (p := ⟨w2.heap.size, k * 4 + 2, none⟩) (block_lt_of_cell r2)).trans r2
            have s3 := (hb5.cell (p := ⟨w2.heap.size, k * 4 + 3, none⟩) (block_lt_of_cell r3)).trans r3
            clear r0 r1 r2 r3 c3 c4 hb4 hb5 hbw3
            go_wp2_with fail
            generalize w4.alloc (.cells #[.string n2, .int .i64 k2', .int .i64 u2, .string t2] 31) = w5 at *
            generalize w4.heap.size = g4 at *
            have p0 := P5.cell 0
            have p1 := P5.cell 1
            have p2 := P5.cell 2
            have p3 := P5.cell 3
            go_quiet (fail)
            clear p0 p1 p2 p3 s0 s1 s2 s3 P5
            go_wp2_with fail
            obtain ⟨wo, rfl⟩ : ∃ wo : World, wo = wr := ⟨_, rfl⟩
            go_loop [11] (fun i => ∃ j : Nat, j ≤ fs.size ∧ i = .int .i64 j) (fun i => fs.size - (intOf i).toNat)
            case atStart => exact ⟨0, Nat.zero_le _, rfl⟩
            case round =>
              obtain ⟨j, hj, rfl⟩ := hrel
              by_cases hjl : j < fs.size
              · obtain ⟨v1, v2⟩ := vis_at HV.out hjl
                go_wp2_with fail
                go_round
                case rel => exact ⟨j + 1, by omega, by go_num⟩
                case measure => simp [intOf]; omega
              · go_wp2_with fail
                go_roundw
                case rel => exact ⟨k + 1, by omega, by go_num, below_drewN c5 _⟩
                case measure => simp [intOf]; omega
          · have hck1 : (checkE n2 k2' u2 t2 != 0) = true := by simpa using hck
            clear hck
            go_wp2_with fail
            refine (vcheck n2 k2' u2 t2 _ (by unfold maxLen; omega) (by unfold maxLen; omega)).mono ?_
            rintro e w4 ⟨rfl, hb4⟩
            have c4 : Below (w2.heap.size + 1) (w2.alloc (.cells #[.string nm, .int .i64 kd, .int .i64 nu, .string tx, .string nm', .int .i64 kd', .int .i64 nu', .string tx'] 31)) w4 := c3.trans (hb4.mono (by have := c3.size; simp at this; omega))
            go_wp2_with fail
            go_roundw
            case rel => exact ⟨k + 1, by omega, by go_num, c4⟩
            case measure => simp [intOf]; omega
        · clear hb
          go_wp2_with fail
          refine (awake_true _ (HE.out _ hbw).tab).mono ?_
          rintro e w3 ⟨rfl, hb3⟩
          go_wp2_with fail
          go_ret
          exact ⟨rfl, below_then hbw hb3⟩
    · go_enter Tryd.func10, Tryd.ntmps10
      go_wp2_with fail
      refine (awake_true _ (HE.out _ ((Below.refl _ _).alloc (Nat.le_refl _) _)).tab).mono ?_
      rintro e w3 ⟨rfl, hb3⟩
      go_wp2_with fail
      go_ret
      exact ⟨rfl, unbox' hb3⟩
  · go_enter Tryd.func10, Tryd.ntmps10
    go_wp2_with fail
    refine (awake_true _ (HE.out _ ((Below.refl _ _).alloc (Nat.le_refl _) _)).tab).mono ?_
    rintro e w3 ⟨rfl, hb3⟩
    go_wp2_with fail
    go_ret
    exact ⟨rfl, unbox' hb3⟩
end Go.Proofs.YthidojkckhjciaaDoor
