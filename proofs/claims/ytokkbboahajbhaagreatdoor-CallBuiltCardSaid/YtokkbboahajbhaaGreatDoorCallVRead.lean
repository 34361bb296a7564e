/- The walk of call.read: what the words say, or that they are those of no call. -/
import Derived.Test.YtokkbboahajbhaaGreatDoorCallSt
import Derived.Test.YtokkbboahajbhaaGreatDoorUnquote
import Derived.Test.YtokkbboahajbhaaGreatDoorCallNum
namespace Go.Proofs.YtokkbboahajbhaaGreatDoor
open Go.RowKit
theorem atoi_bounds {l : List UInt8} {v : Int} (h : Lib.atoiAll l = .ok v) : I64 v := by
  cases l with
  | nil => cases h
  | cons c r =>
    unfold I64
    by_cases h43 : c.toNat = 43
    · have : c = 43 := UInt8.toNat_inj.1 h43
      subst this
      rw [Lib.atoiAll_plus] at h
      exact Lib.signless_bounds h
    · by_cases h45 : c.toNat = 45
      · have : c = 45 := UInt8.toNat_inj.1 h45
        subst this
        rw [Lib.atoiAll_minus] at h
        exact Lib.signed_bounds h
      · rw [Lib.atoiAll_plain c r h43 h45] at h
        exact Lib.signless_bounds h
def ReadPost (s x : ByteArray) (R : List ByteArray) (w : World) (e : Ending) (w' : World) : Prop :=
  ∃ (z : Int) (a : Nat → Int) (vp va : Value) (ps gs : List ByteArray) (ok : Bool), e = .returned (.tuple #[.agg (cellsCall z a vp va), .bool ok]) ∧ ((ok = true ∧ FromW x R z a ps gs ∧ I64A a ∧ R.length ≤ 8) ∨ (ok = false ∧ NoCall s)) ∧ OwnS w' w.heap.size vp ps ∧ OwnS w' w.heap.size va gs ∧ Below w.heap.size w w'
/-- The numbers read so far. -/
structure NumSt (R : List ByteArray) (m k : Nat) (a : Nat → Int) : Prop where
  rd : ∀ j (h : j < R.length), j < k → NumW R[j] (a j)
  zero : ∀ j, k ≤ j → j < 4 → a j = 0
  rng : I64A a
theorem NumSt.start (R : List ByteArray) (m : Nat) : NumSt R m 0 (fun _ => 0) := ⟨fun j _ h => absurd h (Nat.not_lt_zero _), fun _ _ _ => rfl, fun _ _ => ⟨by decide, by decide⟩⟩
theorem NumSt.next {R : List ByteArray} {m k : Nat} {a : Nat → Int} (h : NumSt R m k a) (hk : k < R.length) {v : Int} (hv : NumW R[k] v) (hi : I64 v) : NumSt R m (k + 1) (putA a k v) :=
  ⟨fun j hj hjk => by
    unfold putA
    split
    · rename_i e; subst e; exact hv
    · exact h.rd j hj (by omega),
   fun j h1 h2 => by unfold putA; rw [if_neg (by omega)]; exact h.zero j (by omega) h2,
   fun j hj => by
    unfold putA
    split
    · exact hi
    · exact h.rng j hj⟩
/-- The texts read so far: k of the words T, the first p of them paths. -/
structure TxtSt (T : List ByteArray) (p k : Nat) (ps gs : List ByteArray) : Prop where
  pth : ps = ((T.take k).take p).map unqS
  arg : gs = ((T.take k).drop p).map unqS
theorem TxtSt.start (T : List ByteArray) (p : Nat) : TxtSt T p 0 [] [] := ⟨by simp, by simp⟩
theorem TxtSt.nextP {T : List ByteArray} {p k : Nat} {ps gs : List ByteArray} (h : TxtSt T p k ps gs) (hk : k < T.length) (hp : k < p) : TxtSt T p (k + 1) (ps ++ [unqS T[k]]) gs := by
  have e : T.take (k + 1) = T.take k ++ [T[k]] := List.take_succ_eq_append_getElem hk
  refine ⟨?_, ?_⟩
  · have e1 : (T.take k).take p = T.take k := List.take_of_length_le (by simp; omega)
    have e2 : (T.take k ++ [T[k]]).take p = T.take k ++ [T[k]] := List.take_of_length_le (by simp; omega)
    rw [h.pth, e, e1, e2, List.map_append]; rfl
  · have e1 : (T.take k).drop p = [] := List.drop_of_length_le (by simp; omega)
    have e2 : (T.take k ++ [T[k]]).drop p = [] := List.drop_of_length_le (by simp; omega)
    rw [h.arg, e, e1, e2]
theorem TxtSt.nextG {T : List ByteArray} {p k : Nat} {ps gs : List ByteArray} (h : TxtSt T p k ps gs) (hk : k < T.length) (hp : p ≤ k) : TxtSt T p (k + 1) ps (gs ++ [unqS T[k]]) := by
  have e : T.take (k + 1) = T.take k ++ [T[k]] := List.take_succ_eq_append_getElem hk
  have hl : p ≤ (T.take k).length := by simp; omega
  refine ⟨?_, ?_⟩
  · rw [h.pth, e, List.take_append_of_le_length hl]
  · rw [h.arg, e, List.drop_append_of_le_length hl]; simp
theorem TxtSt.sizes {T : List ByteArray} {p k : Nat} {ps gs : List ByteArray} (h : TxtSt T p k ps gs) : ps.length ≤ T.length ∧ gs.length ≤ T.length := by
  rw [h.pth, h.arg]; simp; omega
theorem FromW.made {x : ByteArray} {R : List ByteArray} {z : Int} {a : Nat → Int} {ps gs : List ByteArray} (hz : z = numC x) (hn : NumSt R (rowI z).nums (rowI z).nums a) {k : Nat} (hk : (R.drop (rowI z).nums).length ≤ k) (ht : TxtSt (R.drop (rowI z).nums) (rowI z).pths k ps gs) : FromW x R z a ps gs :=
  ⟨hz, fun j h1 h2 => hn.rd j h1 h2, fun j h1 h2 => hn.zero j h1 h2, by rw [ht.pth, List.take_of_length_le hk], by rw [ht.arg, List.take_of_length_le hk]⟩
attribute [local irreducible] rowI rowC numC numS unqS unqE
set_option maxRecDepth 100000 in
set_option maxHeartbeats 16000000 in
theorem vread (s x : ByteArray) (R : List ByteArray) (w : World) (B : Nat) (ad : Addr) (cap n : Nat) (hn : n = R.length + 1) (hcap : n ≤ cap) (hB : B ≤ w.heap.size) (hS : StrsAt w B (some ad) (x :: R)) (hw : IsW 32 s (x :: R)) (hs : s.size ≤ 100000) (he : Env w) (hc : Calls10 w) :
    Calls Tryz.prog 38 #[.slice (some ad) n cap] w (ReadPost s x R w) := by
  have hsz := hw.size
  have hlR : R.length ≤ 100000 := by have := hsz.1; simp at this; omega
  have HSZ := Lib.hid (show ∀ y ∈ R, y.size ≤ 100000 from fun y hy => by have := hsz.2 y (List.mem_cons_of_mem _ hy); omega)
  have HX := Lib.hid (show x.size ≤ 100000 from by have := hsz.2 x List.mem_cons_self; omega)
  have hn1 : 1 ≤ n := by omega
  have HR : ∀ w, (Instr.sliceAt 26 (.slice (some ad) n cap) (some (.int .i64 1)) none none).run Tryz.prog w = .ok (.slice (some (fromA ad cap 1)) R.length (cap - 1)) w := fun w => by
    have := run_from ad n cap 1 hn1 w
    have e : n - 1 = R.length := by omega
    rw [e] at this
    exact this
  have HS1 := Lib.hid (show StrsAt w B (some (fromA ad cap 1)) R by
    have := hS.from (cap := cap) (by simp; omega) 1
    simpa using this)
  have hc1 : R.length ≤ cap - 1 := by omega
  generalize fromA ad cap 1 = ad1 at *
  generalize cap - 1 = cap1 at *
  obtain ⟨_, e, hadb, hx0⟩ := hS 0 (by simp)
  cases e
  simp only [List.getElem_cons_zero, Addr.add, if_true] at hx0
  have HIW := Lib.hid hw
  have HE := Lib.hid (fun (W : World) (h : Below w.heap.size w W) => he.below h)
  have HC := Lib.hid (fun (W : World) (h : Below w.heap.size w W) => hc.below h (Nat.le_refl _))
  have hb0 : Below w.heap.size w (w.alloc (.cells (cellsCall 0 (fun _ => 0) (.slice none 0 0) (.slice none 0 0)) 28)) := (Below.refl _ _).alloc (Nat.le_refl _) _
  have st0 := PSt.new (Below.refl w.heap.size w) 0
  have qx : (w.alloc (.cells (cellsCall 0 (fun _ => 0) (.slice none 0 0) (.slice none 0 0)) 28)).cell? ad = some (.string x) := (hb0.cell (by omega)).trans hx0
  clear hw hsz hS he hc hx0 hs hn
  go_enter Tryz.func38, Tryz.ntmps38
  go_wp2_with fail
  refine (vnumber x _ (HC.out _ hb0)).mono ?_
  rintro e w1 ⟨rfl, hb1⟩
  have st1 := st0.below hb1
  clear st0 qx hb0 hb1
  have HSH := Lib.hid (vshapeI (numC x))
  have hsm := rowI_small (numC x)
  have hzr := numC_range x
  generalize hz : numC x = z at *
  have HZ := Lib.hid hz
  clear hz
  have q0 := st1.blk.cell 0
  have f0 := st1.blk.free 0
  go_wp2_with fail
  have st2 := st1.setZ z
  clear q0 f0 st1
  generalize w1.setCell ⟨w.heap.size, 0, none⟩ (.int .i64 z) = w2 at *
  generalize hr : rowI z = r at *
  have HROW := Lib.hid hr
  clear hr
  obtain ⟨nm, m, p, l, u⟩ := r
  obtain ⟨s1, s2, s3, s4, s5⟩ := hsm
  simp only at s1 s2 s3 s4 s5
  refine (HSH.out _ (HC.out _ st2.bel)).mono ?_
  rintro e w3 ⟨rfl, hb3⟩
  have st3 := st2.below hb3
  clear st2 hb3 HSH
  by_cases hz0 : z < 0
  · have NC := Lib.hid (no_shape HIW.out (.inl (by rw [HZ.out]; exact hz0)))
    have q0 := st3.blk.cell 0
    have f0 := st3.blk.free 0
    have q1 := st3.blk.cell 1
    have f1 := st3.blk.free 1
    have q2 := st3.blk.cell 2
    have f2 := st3.blk.free 2
    have q3 := st3.blk.cell 3
    have f3 := st3.blk.free 3
    have q4 := st3.blk.cell 4
    have f4 := st3.blk.free 4
    have q5 := st3.blk.cell 5
    have f5 := st3.blk.free 5
    have q6 := st3.blk.cell 6
    have f6 := st3.blk.free 6
    go_wp2_with fail
    refine bodyPost_ret (call_ret2 (fn := Tryz.f38) rfl _ _ w.heap.size _ rfl st3.back.blk rfl) rfl ?_
    exact ⟨_, _, _, _, _, _, false, rfl, .inr ⟨rfl, NC.out⟩, st3.back.op.low (by omega), st3.back.og.low (by omega), st3.back.bel⟩
  by_cases hlo : R.length < m + p + l
  · have NC := Lib.hid (no_shape HIW.out (.inr (.inl (by rw [HZ.out, HROW.out]; exact hlo))))
    have q0 := st3.blk.cell 0
    have f0 := st3.blk.free 0
    have q1 := st3.blk.cell 1
    have f1 := st3.blk.free 1
    have q2 := st3.blk.cell 2
    have f2 := st3.blk.free 2
    have q3 := st3.blk.cell 3
    have f3 := st3.blk.free 3
    have q4 := st3.blk.cell 4
    have f4 := st3.blk.free 4
    have q5 := st3.blk.cell 5
    have f5 := st3.blk.free 5
    have q6 := st3.blk.cell 6
    have f6 := st3.blk.free 6
    go_wp2_with fail
    refine bodyPost_ret (call_ret2 (fn := Tryz.f38) rfl _ _ w.heap.size _ rfl st3.back.blk rfl) rfl ?_
    exact ⟨_, _, _, _, _, _, false, rfl, .inr ⟨rfl, NC.out⟩, st3.back.op.low (by omega), st3.back.og.low (by omega), st3.back.bel⟩
  by_cases hhi : m + p + u < R.length
  · have NC := Lib.hid (no_shape HIW.out (.inr (.inr (by rw [HZ.out, HROW.out]; exact hhi))))
    have q0 := st3.blk.cell 0
    have f0 := st3.blk.free 0
    have q1 := st3.blk.cell 1
    have f1 := st3.blk.free 1
    have q2 := st3.blk.cell 2
    have f2 := st3.blk.free 2
    have q3 := st3.blk.cell 3
    have f3 := st3.blk.free 3
    have q4 := st3.blk.cell 4
    have f4 := st3.blk.free 4
    have q5 := st3.blk.cell 5
    have f5 := st3.blk.free 5
    have q6 := st3.blk.cell 6
    have f6 := st3.blk.free 6
    go_wp2_with fail
    refine bodyPost_ret (call_ret2 (fn := Tryz.f38) rfl _ _ w.heap.size _ rfl st3.back.blk rfl) rfl ?_
    exact ⟨_, _, _, _, _, _, false, rfl, .inr ⟨rfl, NC.out⟩, st3.back.op.low (by omega), st3.back.og.low (by omega), st3.back.bel⟩
  have HR2 : ∀ w, (Instr.sliceAt 26 (.slice (some ad1) R.length cap1) (some (.int .i64 (m : Int))) none none).run Tryz.prog w = .ok (.slice (some (fromA ad1 cap1 m)) (R.drop m).length (cap1 - m)) w := fun w => by
    have := run_from ad1 R.length cap1 m (by omega) w
    rw [List.length_drop]
    exact this
  have HS2 := Lib.hid (HS1.out.from hc1 m)
  have HTR := Lib.hid (show ∀ k (h : k < (R.drop m).length), unqE (R.drop m)[k] ≠ 0 → NoCall s from fun k h hu => no_text HIW.out (j := m + k) (by simp at h; omega) (by rw [HZ.out, HROW.out]; show m ≤ m + k; omega) (by rwa [List.getElem_drop] at hu))
  have HTS := Lib.hid (show ∀ y ∈ R.drop m, y.size ≤ 100000 from fun y hy => HSZ.out y (List.mem_of_mem_drop hy))
  have HFW := Lib.hid (show ∀ a ps gs k, NumSt R m m a → (R.drop m).length ≤ k → TxtSt (R.drop m) p k ps gs → FromW x R z a ps gs from fun a ps gs k h1 h2 h3 => FromW.made HZ.out.symm (by rw [HROW.out]; exact h1) (k := k) (by rw [HROW.out]; exact h2) (by rw [HROW.out]; exact h3))
  have hTl : (R.drop m).length ≤ 100000 := by simp; omega
  generalize fromA ad1 cap1 m = ad2 at *
  generalize cap1 - m = cap2 at *
  generalize hT : R.drop m = T at *
  clear hT
  have hnums := NumSt.start R m
  have q0 := st3.blk.cell 0
  go_wp2_with fail
  clear q0
  go_loopw [55] (fun i wr => ∃ (k : Nat) (a : Nat → Int), k ≤ m ∧ i = .int .i64 (k : Int) ∧ NumSt R m k a ∧ PSt w wr w.heap.size z a (.slice none 0 0) (.slice none 0 0) [] []) (fun i _ => m - (intOf i).toNat)
  case atStart => exact ⟨0, _, Nat.zero_le _, rfl, hnums, st3⟩
  case round =>
    obtain ⟨k, a, hk, rfl, hnum, hst⟩ := hrel
    clear hnums st3
    by_cases hkm : k < m
    · have hkR : k < R.length := by omega
      obtain ⟨_, e, hadb1, hcell⟩ := HS1.out.keep hst.bel hB k hkR
      cases e
      have hyz := HSZ.out _ (List.getElem_mem hkR)
      by_cases hv : ∃ v, Lib.atoiAll R[k].data.toList = .ok v
      · obtain ⟨v, hv⟩ := hv
        have HN := Lib.hid (hnum.next hkR (numW_atoi hv) (atoi_bounds hv))
        have HA := Lib.hid (vatoi_ok R[k] (by omega) v hv)
        clear hv hnum
        generalize R[k] = y at *
        go_wp2_with fail
        refine (HA.out _).mono ?_
        rintro e w4 ⟨rfl, hb4⟩
        have st4 := hst.below hb4
        clear hst hb4 HA hcell
        have hcs : k = 0 ∨ k = 1 := by omega
        rcases hcs with rfl | rfl
        · have q := st4.blk.cell 1
          have f := st4.blk.free 1
          go_wp2_with fail
          go_roundw
          case rel => exact ⟨1, _, by omega, by go_num, HN.out, st4.setA 0 (by omega) v⟩
          case measure => simp [intOf]; omega
        · have q := st4.blk.cell 2
          have f := st4.blk.free 2
          go_wp2_with fail
          go_roundw
          case rel => exact ⟨2, _, by omega, by go_num, HN.out, st4.setA 1 (by omega) v⟩
          case measure => simp [intOf]; omega
      · have NC := Lib.hid (no_num HIW.out hkR (by rw [HZ.out, HROW.out]; exact hkm) (by rw [HZ.out, HROW.out]; show m ≤ 4; omega) (fun v h => hv ⟨v, h⟩))
        have HA := Lib.hid (vatoi_bad R[k] (by omega) (fun v h => hv ⟨v, h⟩) wr (HE.out _ hst.bel))
        clear hv hnum
        generalize R[k] = y at *
        go_wp2_with fail
        refine HA.out.mono ?_
        rintro e w4 ⟨v, N, rfl, hb4⟩
        have st4 := hst.below hb4
        clear hst hb4 HA hcell
        have q0 := st4.blk.cell 0
        have f0 := st4.blk.free 0
        have q1 := st4.blk.cell 1
        have f1 := st4.blk.free 1
        have q2 := st4.blk.cell 2
        have f2 := st4.blk.free 2
        have q3 := st4.blk.cell 3
        have f3 := st4.blk.free 3
        have q4 := st4.blk.cell 4
        have f4 := st4.blk.free 4
        have q5 := st4.blk.cell 5
        have f5 := st4.blk.free 5
        have q6 := st4.blk.cell 6
        have f6 := st4.blk.free 6
        go_wp2_with fail
        refine bodyPost_ret (call_ret2 (fn := Tryz.f38) rfl _ _ w.heap.size _ rfl st4.back.blk rfl) rfl ?_
        exact ⟨_, _, _, _, _, _, false, rfl, .inr ⟨rfl, NC.out⟩, st4.back.op.low (by omega), st4.back.og.low (by omega), st4.back.bel⟩
    · obtain rfl : m = k := by omega
      go_wp2_with fail
      have htx := TxtSt.start T p
      have HNUM := Lib.hid hnum
      clear hnum
      go_loopw [78] (fun i wr => ∃ (k : Nat) (vp va : Value) (ps gs : List ByteArray), k ≤ T.length ∧ i = .int .i64 (k : Int) ∧ TxtSt T p k ps gs ∧ PSt w wr w.heap.size z a vp va ps gs) (fun i _ => T.length - (intOf i).toNat)
      case atStart => exact ⟨0, _, _, _, _, Nat.zero_le _, rfl, htx, hst⟩
      case round =>
        obtain ⟨k, vp, va, ps, gs, hk, rfl, htx, hst⟩ := hrel
        by_cases hkT : k < T.length
        · obtain ⟨_, e, hadb2, hcell⟩ := HS2.out.keep hst.bel hB k hkT
          cases e
          have hyz := HTS.out _ (List.getElem_mem hkT)
          have hln := htx.sizes
          obtain ⟨hln1, hln2⟩ := hln
          have HU := Lib.hid (vunquote T[k] wr (by omega) (HE.out _ hst.bel).tab)
          by_cases hu : unqE T[k] = 0
          · have tu : (unqE T[k] != 0) = false := by simpa using hu
            clear hu
            by_cases hkp : k < p
            · have HTX := Lib.hid (htx.nextP hkT hkp)
              clear htx
              generalize T[k] = y at *
              go_wp2_with fail
              refine HU.out.mono ?_
              rintro e w4 ⟨rfl, hb4⟩
              have st4 := hst.below hb4
              clear hst hb4 HU hcell
              generalize unqS y = t at *
              have q5 : w4.cell? ⟨w.heap.size, 5, none⟩ = some vp := st4.blk.cell 5
              have hlt4 : w.heap.size < w4.heap.size := st4.lt
              go_wp2_with (at_builtin; refine wpList_append_strs rfl (.tmp 95) (.tmp 97) rfl (w.heap.size + 1) vp ps rfl (st4.op.alloc _) (w4.heap.size + 1) (some ⟨w4.heap.size, 0, none⟩) 1 1 [t] rfl rfl (one_new w4 _ 9) (by simp; omega) (by simp; omega) ?_; intro v5 w5 own5 hg5 hat5; obtain ⟨g5, c5, hv5⟩ := Joins.ownsRow_form own5.out (by simp); subst hv5; have st5 := st4.addP own5 hg5 hat5; have q5' : w5.cell? ⟨w.heap.size, 5, none⟩ = some vp := (((st4.blk.alloc _).grown hg5 (fun e => by have := st4.op.ge _ e; omega)).cell 5); have f5' := ((st4.blk.alloc (.cells #[.string t] 9)).grown hg5 (fun e => by have := st4.op.ge _ e; omega)).free 5)
              clear q5 q5' f5' own5 hg5 hat5 st4
              go_wp2_with fail
              go_roundw
              case rel => exact ⟨k + 1, _, _, _, _, by omega, by go_num, HTX.out, (by have k5 := st5; rw [List.length_append] at k5; exact k5)⟩
              case measure => simp [intOf]; omega
            · have HTX := Lib.hid (htx.nextG hkT (by omega))
              clear htx
              generalize T[k] = y at *
              go_wp2_with fail
              refine HU.out.mono ?_
              rintro e w4 ⟨rfl, hb4⟩
              have st4 := hst.below hb4
              clear hst hb4 HU hcell
              generalize unqS y = t at *
              have q6 : w4.cell? ⟨w.heap.size, 6, none⟩ = some va := st4.blk.cell 6
              have hlt4 : w.heap.size < w4.heap.size := st4.lt
              go_wp2_with (at_builtin; refine wpList_append_strs rfl (.tmp 101) (.tmp 103) rfl (w.heap.size + 1) va gs rfl (st4.og.alloc _) (w4.heap.size + 1) (some ⟨w4.heap.size, 0, none⟩) 1 1 [t] rfl rfl (one_new w4 _ 9) (by simp; omega) (by simp; omega) ?_; intro v5 w5 own5 hg5 hat5; obtain ⟨g5, c5, hv5⟩ := Joins.ownsRow_form own5.out (by simp); subst hv5; have st5 := st4.addG own5 hg5 hat5; have q6' : w5.cell? ⟨w.heap.size, 6, none⟩ = some va := (((st4.blk.alloc _).grown hg5 (fun e => by have := st4.og.ge _ e; omega)).cell 6); have f6' := ((st4.blk.alloc (.cells #[.string t] 9)).grown hg5 (fun e => by have := st4.og.ge _ e; omega)).free 6)
              clear q6 q6' f6' own5 hg5 hat5 st4
              go_wp2_with fail
              go_roundw
              case rel => exact ⟨k + 1, _, _, _, _, by omega, by go_num, HTX.out, (by have k5 := st5; rw [List.length_append] at k5; exact k5)⟩
              case measure => simp [intOf]; omega
          · have tu : (unqE T[k] != 0) = true := by simpa using hu
            have NC := Lib.hid (HTR.out k hkT hu)
            clear hu htx
            generalize T[k] = y at *
            go_wp2_with fail
            refine HU.out.mono ?_
            rintro e w4 ⟨rfl, hb4⟩
            have st4 := hst.below hb4
            clear hst hb4 HU hcell
            obtain ⟨Ap, cp, e1, _⟩ := st4.op.strs
            obtain ⟨Ag, cg, e2, _⟩ := st4.og.strs
            subst e1 e2
            have q0 := st4.blk.cell 0
            have f0 := st4.blk.free 0
            have q1 := st4.blk.cell 1
            have f1 := st4.blk.free 1
            have q2 := st4.blk.cell 2
            have f2 := st4.blk.free 2
            have q3 := st4.blk.cell 3
            have f3 := st4.blk.free 3
            have q4 := st4.blk.cell 4
            have f4 := st4.blk.free 4
            have q5 := st4.blk.cell 5
            have f5 := st4.blk.free 5
            have q6 := st4.blk.cell 6
            have f6 := st4.blk.free 6
            go_wp2_with fail
            refine bodyPost_ret (call_ret2 (fn := Tryz.f38) rfl _ _ w.heap.size _ rfl st4.back.blk rfl) rfl ?_
            exact ⟨_, _, _, _, _, _, false, rfl, .inr ⟨rfl, NC.out⟩, st4.back.op.low (by omega), st4.back.og.low (by omega), st4.back.bel⟩
        · have HF := Lib.hid (HFW.out a ps gs k HNUM.out (by omega) htx)
          clear htx
          obtain ⟨Ap, cp, e1, _⟩ := hst.op.strs
          obtain ⟨Ag, cg, e2, _⟩ := hst.og.strs
          subst e1 e2
          have q0 := hst.blk.cell 0
          have f0 := hst.blk.free 0
          have q1 := hst.blk.cell 1
          have f1 := hst.blk.free 1
          have q2 := hst.blk.cell 2
          have f2 := hst.blk.free 2
          have q3 := hst.blk.cell 3
          have f3 := hst.blk.free 3
          have q4 := hst.blk.cell 4
          have f4 := hst.blk.free 4
          have q5 := hst.blk.cell 5
          have f5 := hst.blk.free 5
          have q6 := hst.blk.cell 6
          have f6 := hst.blk.free 6
          go_wp2_with fail
          refine bodyPost_ret (call_ret2 (fn := Tryz.f38) rfl _ _ w.heap.size _ rfl hst.back.blk rfl) rfl ?_
          exact ⟨_, _, _, _, _, _, true, rfl, .inl ⟨rfl, HF.out, HNUM.out.rng, by omega⟩, hst.back.op.low (by omega), hst.back.og.low (by omega), hst.back.bel⟩
end Go.Proofs.YtokkbboahajbhaaGreatDoor
