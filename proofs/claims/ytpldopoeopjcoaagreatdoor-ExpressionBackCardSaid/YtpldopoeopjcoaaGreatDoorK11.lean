/- Texts of one proof, laid together. -/
import Derived.Test.YtpldopoeopjcoaaGreatDoorK10
/- Unquote of package value returns unqS and unqE. -/
namespace Go.Proofs.YtpldopoeopjcoaaGreatDoor
open Go.RowKit
theorem mid_list (s : ByteArray) : (s.extract 1 (s.size - 1)).data.toList = s.data.toList.tail.dropLast := by
  rw [ByteArray.data_extract, Array.toList_extract, List.extract_eq_take_drop, ← List.drop_one, List.dropLast_eq_take, List.length_drop]
  rfl
theorem tail_list (s : ByteArray) : (s.extract 1 s.size).data.toList = s.data.toList.tail := by
  rw [ByteArray.data_extract, Array.toList_extract, List.extract_eq_take_drop, ← List.drop_one]
  exact List.take_of_length_le (by rw [List.length_drop]; exact Nat.le_refl _)
theorem head_list (s : ByteArray) (h : 0 < s.size) : s.data.toList = s[0] :: s.data.toList.tail := by
  have : s.data.toList = s.data.toList.drop 0 := rfl
  rw [this, List.drop_eq_getElem_cons (by simpa using h)]; rfl
theorem last_list (s : ByteArray) (h : s.size - 1 < s.size) : s.data.toList.getLast? = some s[s.size - 1] := by
  rw [List.getLast?_eq_getElem?, List.getElem?_eq_getElem (by simpa using h)]; rfl
theorem byte_eq {c : UInt8} {n : Nat} (hn : n < 256) (h : ((c.toNat : Int) == (n : Int)) = true) : c = UInt8.ofNat n := by
  apply UInt8.toNat.inj
  rw [UInt8.toNat_ofNat']
  have : (c.toNat : Int) = (n : Int) := by simpa using h
  omega
theorem ext_eq (s : ByteArray) {l : List UInt8} (h : s.data.toList = l) : s = ⟨l.toArray⟩ := by
  apply ByteArray.ext; rw [← h]
def inQ (s : ByteArray) (h : 0 < s.size) (h1 : s.size - 1 < s.size) : Prop := ((s[0].toNat : Int) == 34) = true ∧ ((s[s.size - 1].toNat : Int) == 34) = true
theorem unqO_A (s : ByteArray) (hs : 2 ≤ s.size) (h0 : ((s[0].toNat : Int) == 34) = true) (h1 : ((s[s.size - 1].toNat : Int) == 34) = true) :
    unqO s.data.toList = if safeB (s.extract 1 (s.size - 1)).data.toList ∧ (s.extract 1 (s.size - 1)).size ≤ 640 then some (s.extract 1 (s.size - 1)).data.toList else none := by
  have e0 : s[0] = 34 := byte_eq (n := 34) (by omega) h0
  have e1 : s[s.size - 1] = 34 := byte_eq (n := 34) (by omega) h1
  have hl : s.data.toList.length = s.size := Array.length_toList
  have hm : (s.extract 1 (s.size - 1)).size = s.data.toList.tail.dropLast.length := by rw [← mid_list, Array.length_toList]; rfl
  rw [hm, mid_list]
  unfold unqO
  rw [if_pos ⟨by omega, by rw [head_list s (by omega), e0]; rfl, by rw [last_list s (by omega), e1]⟩]
theorem unqO_B (s : ByteArray) (hs : 1 ≤ s.size) (h0 : ((s[0].toNat : Int) == 120) = true) :
    unqO s.data.toList = match unhexL (s.extract 1 s.size).data.toList with | some t => if safeB t = false ∧ t.length ≤ 640 then some t else none | none => none := by
  have e0 : s[0] = 120 := byte_eq (n := 120) (by omega) h0
  rw [tail_list]
  unfold unqO
  rw [if_neg (by rw [head_list s (by omega), e0]; simp)]
  rw [head_list s (by omega), e0]
  rfl
theorem unqO_C0 (s : ByteArray) (hs : s.size = 0) : unqO s.data.toList = none := by
  have : s.data.toList = [] := List.eq_nil_of_length_eq_zero (Array.length_toList.trans hs)
  rw [this]; rfl
theorem unqO_C (s : ByteArray) (hs : 1 ≤ s.size) (h0 : ((s[0].toNat : Int) == 120) = false) (h : s.size < 2 ∨ ((s[0].toNat : Int) == 34) = false ∨ ((s[s.size - 1].toNat : Int) == 34) = false) :
    unqO s.data.toList = none := by
  have e0 : s[0] ≠ 120 := fun e => by rw [e] at h0; exact absurd h0 (by decide)
  have hl : s.data.toList.length = s.size := Array.length_toList
  unfold unqO
  rw [if_neg]
  · rw [head_list s (by omega)]
    simp [e0]
  · rintro ⟨k1, k2, k3⟩
    rcases h with h | h | h
    · omega
    · rw [head_list s (by omega)] at k2
      injection k2 with k2
      rw [k2] at h; exact absurd h (by decide)
    · rw [last_list s (by omega)] at k3
      injection k3 with k3
      rw [k3] at h; exact absurd h (by decide)
theorem extract_size (s : ByteArray) (h : s.size ≤ 1000000) (a b : Nat) : (s.extract a b).size ≤ 1000000 := by
  simp; omega
theorem mid_size (s : ByteArray) : (s.extract 1 (s.size - 1)).size = s.size - 1 - 1 := by
  simp
set_option maxHeartbeats 1000000 in
theorem vunq_A (s : ByteArray) (w : World) (hs : s.size ≤ 1000000) (h2 : 2 ≤ s.size) (h0 : ((s[0].toNat : Int) == 34) = true) (h1 : ((s[s.size - 1].toNat : Int) == 34) = true) :
    Calls Tryz.prog 103 #[.string s] w fun e w' => e = .returned (.tuple #[.string (unqS s), .int .i64 (unqE s)]) ∧ Below w.heap.size w w' := by
  have hU := Lib.hid (unqO_A s h2 h0 h1)
  have hz := extract_size s hs 1 (s.size - 1)
  have hm := mid_size s
  cases hsafe : safeB (s.extract 1 (s.size - 1)).data.toList
  · have HS := Lib.hid hsafe
    have H := Lib.hid (hU.out.trans (if_neg (by rw [hsafe]; simp)))
    clear hsafe hU hm
    go_enter Tryz.func103, Tryz.ntmps103
    go_wp2_with (go_at_call 57; refine (vsafe _ _ (by unfold maxLen; omega)).mono ?_; rintro e w' ⟨rfl, rfl⟩; rw [HS.out])
    go_ret2
    exact ⟨tup (unqS_none H.out).symm (unqE_none H.out).symm, Below.refl _ _⟩
  · have HS := Lib.hid hsafe
    by_cases hlen : s.size - 1 - 1 ≤ 640
    · have H := Lib.hid (hU.out.trans (if_pos ⟨hsafe, by omega⟩))
      have hl2 : decide (640 < s.size - 1 - 1) = false := by simp; omega
      have hl3 : decide (640 < ((s.size - 1 - 1 : Nat) : Int)) = false := by simp; omega
      have hl4 : ((s.size - 1 - 1 : Nat) : Int) ≤ 640 := by omega
      clear hsafe hU hm
      go_enter Tryz.func103, Tryz.ntmps103
      go_wp2_with (go_at_call 57; refine (vsafe _ _ (by unfold maxLen; omega)).mono ?_; rintro e w' ⟨rfl, rfl⟩; rw [HS.out])
      go_ret2
      exact ⟨tup (by rw [unqS_some H.out]) (unqE_some H.out).symm, Below.refl _ _⟩
    · have H := Lib.hid (hU.out.trans (if_neg (by omega)))
      have hl2 : decide (640 < s.size - 1 - 1) = true := by simp; omega
      have hl3 : decide (640 < ((s.size - 1 - 1 : Nat) : Int)) = true := by simp; omega
      have hl4 : 640 < ((s.size - 1 - 1 : Nat) : Int) := by omega
      clear hsafe hU hm
      go_enter Tryz.func103, Tryz.ntmps103
      go_wp2_with (go_at_call 57; refine (vsafe _ _ (by unfold maxLen; omega)).mono ?_; rintro e w' ⟨rfl, rfl⟩; rw [HS.out])
      go_ret2
      exact ⟨tup (unqS_none H.out).symm (unqE_none H.out).symm, Below.refl _ _⟩
theorem uh_none {s : ByteArray} (h : unhexL s.data.toList = none) : uhB s = false := by unfold uhB; rw [h]; rfl
theorem uh_some {s : ByteArray} {t : List UInt8} (h : unhexL s.data.toList = some t) : uhB s = true ∧ uhS s = ⟨t.toArray⟩ := by unfold uhB uhS; rw [h]; exact ⟨rfl, rfl⟩
set_option maxHeartbeats 1000000 in
theorem vunq_B (s : ByteArray) (w : World) (hs : s.size ≤ 1000000) (ht : Tab w) (h2 : 1 ≤ s.size) (h0 : ((s[0].toNat : Int) == 120) = true) (h34 : ((s[0].toNat : Int) == 34) = false) :
    Calls Tryz.prog 103 #[.string s] w fun e w' => e = .returned (.tuple #[.string (unqS s), .int .i64 (unqE s)]) ∧ Below w.heap.size w w' := by
  have hU := Lib.hid (unqO_B s h2 h0)
  have hz := extract_size s hs 1 s.size
  have h1 : 0 < s.size := by omega
  cases hx : unhexL (s.extract 1 s.size).data.toList with
  | none =>
    have HX := Lib.hid (uh_none hx)
    have H := Lib.hid (show unqO s.data.toList = none by rw [hU.out, hx])
    clear hx hU
    by_cases h3 : 2 ≤ s.size
    all_goals
      go_enter Tryz.func103, Tryz.ntmps103
      go_wp2_with (go_at_call 117; refine (vunhex _ _ hz ht).mono ?_; rintro e w' ⟨rfl, hb⟩; rw [HX.out])
      go_ret2
      exact ⟨tup (unqS_none H.out).symm (unqE_none H.out).symm, hb⟩
  | some t =>
    obtain ⟨g1, g2⟩ := uh_some hx
    have G1 := Lib.hid g1
    have G2 := Lib.hid g2
    have hlt : t.length ≤ 1000000 := by
      have e := hexL_unhexL _ _ hx
      have := hexL_length t
      rw [e, Array.length_toList] at this
      have hz' : (s.extract 1 s.size).data.size ≤ 1000000 := hz
      omega
    have hU' := Lib.hid (show unqO s.data.toList = if safeB t = false ∧ t.length ≤ 640 then some t else none by rw [hU.out, hx])
    clear hx hU g1 g2
    cases hsafe : safeB t
    · have HS := Lib.hid hsafe
      by_cases hlen : t.length ≤ 640
      · have H := Lib.hid (hU'.out.trans (if_pos ⟨hsafe, hlen⟩))
        have hl2 : decide (640 < t.length) = false := by simp; omega
        have hl3 : decide (640 < (t.length : Int)) = false := by simp; omega
        clear hsafe hU'
        by_cases h3 : 2 ≤ s.size
        all_goals
          go_enter Tryz.func103, Tryz.ntmps103
          go_wp2_with (first
            | (go_at_call 117; refine (vunhex _ _ hz ht).mono ?_; rintro e w' ⟨rfl, hb⟩; rw [G1.out, G2.out])
            | (go_at_call 57; refine (vsafe _ _ (by unfold maxLen; simp [ByteArray.size]; omega)).mono ?_; rintro e w' ⟨rfl, rfl⟩; rw [show safeB (⟨t.toArray⟩ : ByteArray).data.toList = false from HS.out]))
          go_ret2
          exact ⟨tup (unqS_some H.out).symm (unqE_some H.out).symm, hb⟩
      · have H := Lib.hid (hU'.out.trans (if_neg (by omega)))
        have hl2 : decide (640 < t.length) = true := by simp; omega
        have hl3 : decide (640 < (t.length : Int)) = true := by simp; omega
        clear hsafe hU'
        by_cases h3 : 2 ≤ s.size
        all_goals
          go_enter Tryz.func103, Tryz.ntmps103
          go_wp2_with (first
            | (go_at_call 117; refine (vunhex _ _ hz ht).mono ?_; rintro e w' ⟨rfl, hb⟩; rw [G1.out, G2.out])
            | (go_at_call 57; refine (vsafe _ _ (by unfold maxLen; simp [ByteArray.size]; omega)).mono ?_; rintro e w' ⟨rfl, rfl⟩; rw [show safeB (⟨t.toArray⟩ : ByteArray).data.toList = false from HS.out]))
          go_ret2
          exact ⟨tup (unqS_none H.out).symm (unqE_none H.out).symm, hb⟩
    · have HS := Lib.hid hsafe
      have H := Lib.hid (hU'.out.trans (if_neg (by rw [hsafe]; simp)))
      clear hsafe hU'
      by_cases h3 : 2 ≤ s.size
      all_goals
        go_enter Tryz.func103, Tryz.ntmps103
        go_wp2_with (first
          | (go_at_call 117; refine (vunhex _ _ hz ht).mono ?_; rintro e w' ⟨rfl, hb⟩; rw [G1.out, G2.out])
          | (go_at_call 57; refine (vsafe _ _ (by unfold maxLen; simp [ByteArray.size]; omega)).mono ?_; rintro e w' ⟨rfl, rfl⟩; rw [show safeB (⟨t.toArray⟩ : ByteArray).data.toList = true from HS.out]))
        go_ret2
        exact ⟨tup (unqS_none H.out).symm (unqE_none H.out).symm, hb⟩
set_option maxHeartbeats 1000000 in
theorem vunq_C0 (s : ByteArray) (w : World) (hs : s.size = 0) :
    Calls Tryz.prog 103 #[.string s] w fun e w' => e = .returned (.tuple #[.string (unqS s), .int .i64 (unqE s)]) ∧ Below w.heap.size w w' := by
  have H := Lib.hid (unqO_C0 s hs)
  have h1 : (s.size : Int) < 1 := by omega
  clear hs
  go_enter Tryz.func103, Tryz.ntmps103
  go_wp2
  go_ret2
  exact ⟨tup (unqS_none H.out).symm (unqE_none H.out).symm, Below.refl _ _⟩
set_option maxHeartbeats 1000000 in
theorem vunq_C (s : ByteArray) (w : World) (hs : s.size ≤ 1000000) (h2 : 1 ≤ s.size) (h0 : ((s[0].toNat : Int) == 120) = false) (h : s.size < 2 ∨ ((s[0].toNat : Int) == 34) = false ∨ ((s[s.size - 1].toNat : Int) == 34) = false) :
    Calls Tryz.prog 103 #[.string s] w fun e w' => e = .returned (.tuple #[.string (unqS s), .int .i64 (unqE s)]) ∧ Below w.heap.size w w' := by
  have H := Lib.hid (unqO_C s h2 h0 h)
  have h1 : 0 < s.size := by omega
  by_cases h3 : 2 ≤ s.size
  · have h4 : ((s[0].toNat : Int) == 34) = false ∨ (((s[0].toNat : Int) == 34) = true ∧ ((s[s.size - 1].toNat : Int) == 34) = false) := by
      rcases h with h | h | h
      · omega
      · exact .inl h
      · cases hh : ((s[0].toNat : Int) == 34)
        · exact .inl rfl
        · exact .inr ⟨rfl, h⟩
    clear h
    rcases h4 with h4 | ⟨h4, h5⟩
    all_goals
      go_enter Tryz.func103, Tryz.ntmps103
      go_wp2
      go_ret2
      exact ⟨tup (unqS_none H.out).symm (unqE_none H.out).symm, Below.refl _ _⟩
  · clear h
    go_enter Tryz.func103, Tryz.ntmps103
    go_wp2
    go_ret2
    exact ⟨tup (unqS_none H.out).symm (unqE_none H.out).symm, Below.refl _ _⟩
theorem vunquote (s : ByteArray) (w : World) (hs : s.size ≤ 1000000) (ht : Tab w) :
    Calls Tryz.prog 103 #[.string s] w fun e w' => e = .returned (.tuple #[.string (unqS s), .int .i64 (unqE s)]) ∧ Below w.heap.size w w' := by
  by_cases h : 1 ≤ s.size
  · cases h0 : ((s[0].toNat : Int) == 120)
    · by_cases hq : 2 ≤ s.size ∧ ((s[0].toNat : Int) == 34) = true ∧ ((s[s.size - 1].toNat : Int) == 34) = true
      · exact vunq_A s w hs hq.1 hq.2.1 hq.2.2
      · refine vunq_C s w hs h h0 ?_
        by_cases k1 : s.size < 2
        · exact .inl k1
        · cases k2 : ((s[0].toNat : Int) == 34)
          · exact .inr (.inl rfl)
          · cases k3 : ((s[s.size - 1].toNat : Int) == 34)
            · exact .inr (.inr rfl)
            · exact absurd ⟨by omega, k2, k3⟩ hq
    · have : (s[0].toNat : Int) = 120 := by simpa using h0
      exact vunq_B s w hs ht h h0 (by rw [this]; rfl)
  · exact vunq_C0 s w (by omega)
end Go.Proofs.YtpldopoeopjcoaaGreatDoor
/- What factor of package expression's parser keeps. -/
namespace Go.Proofs.YtpldopoeopjcoaaGreatDoor
open Go.RowKit
def hdT (ts : List Tk) : Tk := ts.headD zeroTk
theorem vnextO (ts : List Tk) (w : World) (g : Nat) (h : TkO w g ts) : Calls Tryz.prog 101 #[.pointer (some ⟨g, 0, none⟩)] w fun e w' => e = .returned (.agg (tkC (hdT ts))) ∧ TkO w' g ts.tail ∧ w.grownBy w' (some g) := by
  cases ts with
  | nil => exact (vnext_nil w g h.1).mono (fun _ _ q => ⟨q.1, h.step q.2.1 h.toks q.2.2, q.2.2⟩)
  | cons t r => exact (vnext_cons t r w g h.1).mono (fun _ _ q => ⟨q.1, h.step q.2.1 h.toks.tail q.2.2, q.2.2⟩)
theorem cmpE_hd (nm : ByteArray) (ts : List Tk) : cmpE nm ts = if (hdT ts).kd = 4 ∧ cmpL (hdT ts).tx.toList ≠ 0 then valE nm (cmpL (hdT ts).tx.toList) ts.tail else none := by
  cases ts with
  | nil => rw [if_neg (by intro h; exact absurd h.1 (by decide))]; rfl
  | cons t r => exact cmpE_cons nm t r
theorem valE_hd (nm : ByteArray) (cm : Int) (ts : List Tk) : valE nm cm ts = if (hdT ts).kd = 2 then some (.mk 4 cm 1 (hdT ts).nu nm ⟨#[]⟩ [], ts.tail)
    else if (hdT ts).kd = 3 then some (.mk 4 cm 2 0 nm (hdT ts).tx [], ts.tail)
    else if (hdT ts).kd = 1 then (match unqO (hdT ts).tx.data.toList with | some u => some (.mk 4 cm 2 0 nm ⟨u.toArray⟩ [], ts.tail) | none => none)
    else none := by
  cases ts with
  | nil => rw [if_neg (by decide), if_neg (by decide), if_neg (by decide)]; rfl
  | cons t r => exact valE_cons nm cm t r
theorem TOk.hd {ts : List Tk} (h : TOk ts) : (hdT ts).tx.size ≤ 1000000 := by
  cases ts with
  | nil => show 0 ≤ 1000000; omega
  | cons t r => exact h.2 t (List.mem_cons_self ..)
theorem unqO_size {l u : List UInt8} (h : unqO l = some u) : u.length ≤ 640 := by
  unfold unqO at h
  split at h
  · simp only at h
    split at h
    · rename_i hc; injection h with h; rw [← h]; exact hc.2
    · cases h
  · split at h
    · cases h
    · split at h
      · split at h
        · split at h
          · rename_i hc; injection h with h; rw [← h]; exact hc.2
          · cases h
        · cases h
      · cases h
/-- What factor's test keeps: the result's block, the expression in block g4. -/
structure FS (w wr : World) (g g4 : Nat) (m : Xe) (ts : List Tk) : Prop where
  res : Blk wr w.heap.size 25 xZ
  xb : Blk wr g4 25 (xC m)
  tk : TkO wr g ts
  only : w.grownBy wr (some g)
  h4 : w.heap.size < g4
  hg : g < w.heap.size
section
variable {w wr w' : World} {g g4 : Nat} {m m' : Xe} {ts ts' : List Tk}
theorem FS.step (h : FS w wr g g4 m ts) (hg : wr.grownBy w' (some g)) (ht : TkO w' g ts') : FS w w' g g4 m ts' := by
  have h1 := h.h4
  have h2 := h.hg
  exact ⟨Blk.grown h.res hg (fun e => by injection e with e; omega), Blk.grown h.xb hg (fun e => by injection e with e; omega), ht, only_trans h.only hg, h1, h2⟩
theorem FS.below (h : FS w wr g g4 m ts) (hb : Below wr.heap.size wr w') : FS w w' g g4 m ts :=
  h.step ⟨hb.os, hb.tape, hb.output, hb.size, fun i hi _ => hb.block i hi⟩ (h.tk.below hb)
theorem FS.alloc (h : FS w wr g g4 m ts) (o : Obj) : FS w (wr.alloc o) g g4 m ts := h.below ((Below.refl _ _).alloc (Nat.le_refl _) o)
theorem FS.drew (h : FS w wr g g4 m ts) : FS w wr.drew g g4 m ts := h.below (Below.refl _ _).drew
theorem FS.set (h : FS w wr g g4 m ts) (j : Nat) (v : Value) (hm : (xC m).setIfInBounds j v = xC m') : FS w (wr.setCell ⟨g4, j, none⟩ v) g g4 m' ts := by
  have h1 := h.h4
  have h2 := h.hg
  have h3 : wr.grownBy (wr.setCell ⟨g4, j, none⟩ v) (some g4) := only_setCell (World.grownBy.refl wr (some g4)) (.inl rfl) v
  exact ⟨Blk.put_other h.res v (by show w.heap.size ≠ g4; omega), hm ▸ Blk.put h.xb j v, h.tk.far h3 (fun k e => by injection e with e; omega), only_far h.only h3 (fun k e => by injection e with e; omega), h1, h2⟩
theorem FS.row (h : FS w wr g g4 m ts) {g5 : Nat} (h5 : g4 < g5) (cs : Array Value) : FS w (wr.setRow g5 cs) g g4 m ts := by
  have h1 := h.h4
  have h2 := h.hg
  exact ⟨Blk.row_other h.res cs (by omega), Blk.row_other h.xb cs (by omega), h.tk.far (row_only wr g5 cs) (fun k e => by injection e with e; omega), only_far h.only (row_only wr g5 cs) (fun k e => by injection e with e; omega), h1, h2⟩
theorem FS.fin (h : FS w wr g g4 m ts) (hA : m.A = none) (hn : m.n = 0) (hs : m.nm.size ≤ maxLen ∧ m.tx.size ≤ maxLen) : XPost (some (.mk m.op m.cm m.kd m.nu m.nm m.tx [], ts)) w g (.returned (.agg (xC m))) (wr.setRow w.heap.size (xC m)) := by
  have h2 := h.hg
  obtain ⟨op, cm, kd, nu, nm, tx, A, n, c⟩ := m
  simp only at hA hn hs
  subst hA
  subst hn
  exact ⟨_, rfl, ExA.leaf _ _ op cm kd nu nm tx c hs, h.tk.far (row_only _ _ _) (fun k e => by injection e with e; omega), only_far h.only (row_only _ _ _) (fun k e => by injection e with e; omega)⟩
end
/-- not. -/
theorem not_post {w w2 : World} {g : Nat} {x : Ex} {m : Xe} {r : List Tk} (hx : ExA w2 (fun i => w.heap.size < i ∧ i < w2.heap.size) x m) (hg : w.grownBy w2 (some g)) (ht : TkO w2 g r) (hgl : g < w.heap.size) (hs : w.heap.size < w2.heap.size) :
    XPost (some (.mk 3 0 0 0 ⟨#[]⟩ ⟨#[]⟩ [x], r)) w g (.returned (.agg (xC ⟨3, 0, 0, 0, ⟨#[]⟩, ⟨#[]⟩, some ⟨w2.heap.size, 0, none⟩, 1, 1⟩))) ((w2.alloc (.cells (xC m) 25)).setRow w.heap.size (xC ⟨3, 0, 0, 0, ⟨#[]⟩, ⟨#[]⟩, some ⟨w2.heap.size, 0, none⟩, 1, 1⟩)) := by
  have ho := OwnE.made EX w2 (xC m) [m] rfl (base := w2.heap.size) (Nat.le_refl _) (by show 1 ≤ 1000; omega) (n := 1) rfl
  obtain ⟨A1, c1, e1, hat⟩ := ho.at
  injection e1 with e1 _ _
  subst e1
  have h3 : (w2.alloc (.cells (xC m) 25)).heap.size = w2.heap.size + 1 := by simp
  have h4 : ∀ i, i < w2.heap.size → (w2.alloc (.cells (xC m) 25)).heap[i]? = w2.heap[i]? := fun i hi => ((Below.refl w2.heap.size w2).alloc (Nat.le_refl _) _).block i hi
  refine ⟨_, rfl, ?_, (ht.alloc _).far (row_only _ _ _) (fun k e => by injection e with e; omega), only_far (only_alloc hg _) (row_only _ _ _) (fun k e => by injection e with e; omega)⟩
  generalize hcs : xC ⟨3, 0, 0, 0, ⟨#[]⟩, ⟨#[]⟩, some ⟨w2.heap.size, 0, none⟩, 1, 1⟩ = cs
  have hk : ∀ i, w.heap.size < i → ((w2.alloc (.cells (xC m) 25)).setRow w.heap.size cs).heap[i]? = (w2.alloc (.cells (xC m) 25)).heap[i]? := fun i hi => setRow_other _ _ _ _ (by omega)
  have hz : ((w2.alloc (.cells (xC m) 25)).setRow w.heap.size cs).heap.size = w2.heap.size + 1 := by rw [setRow_size]; exact h3
  generalize (w2.alloc (.cells (xC m) 25)).setRow w.heap.size cs = W at hk hz ⊢
  have ha : AtS (w2.alloc (.cells (xC m) 25)) (fun i => i = w2.heap.size) (some ⟨w2.heap.size, 0, none⟩) [m] := hat.toS (fun ad e hb => by injection e with e; subst e; rfl)
  have ha2 : AtS W (Frs w W) (some ⟨w2.heap.size, 0, none⟩) [m] := ha.keep (fun i hi => hk i (by omega)) (fun i hi => ⟨by omega, by omega⟩)
  refine ExA.mk 3 0 0 0 ⟨#[]⟩ ⟨#[]⟩ [x] (some ⟨w2.heap.size, 0, none⟩) 1 [m] rfl (by show 1 ≤ 1000000; omega) ⟨by show 0 ≤ maxLen; omega, by show 0 ≤ maxLen; omega⟩ ha2 (fun k h1 h2 => ?_)
  have : k = 0 := by simpa using h1
  subst this
  exact hx.keep (fun i hi => (hk i hi.1).trans (h4 i hi.2)) (fun i hi => ⟨by have := hi.1; omega, by have := hi.2; omega⟩)
theorem fac_not {n : Nat} {ts : List Tk} (h : hitB ts 1 sNot = true) : facE (n + 1) ts = notE (facE n ts.tail) := by rw [facE_succ, if_pos h]
theorem fac_has {n : Nat} {ts : List Tk} (h : hitB ts 1 sNot = false) (h2 : hitB ts 1 sHas = true) : facE (n + 1) ts = hasE ts.tail := by rw [facE_succ, if_neg (by rw [h]; exact Bool.false_ne_true), if_pos h2]
theorem fac_par {n : Nat} {ts : List Tk} (h : hitB ts 1 sNot = false) (h2 : hitB ts 1 sHas = false) (h3 : hitB ts 4 ⟨#[40]⟩ = true) : facE (n + 1) ts = parE (orE n ts.tail) := by rw [facE_succ, if_neg (by rw [h]; exact Bool.false_ne_true), if_neg (by rw [h2]; exact Bool.false_ne_true), if_pos h3]
theorem fac_test {n : Nat} {ts : List Tk} (h : hitB ts 1 sNot = false) (h2 : hitB ts 1 sHas = false) (h3 : hitB ts 4 ⟨#[40]⟩ = false) : facE (n + 1) ts = testE ts := by rw [facE_succ, if_neg (by rw [h]; exact Bool.false_ne_true), if_neg (by rw [h2]; exact Bool.false_ne_true), if_neg (by rw [h3]; exact Bool.false_ne_true)]
end Go.Proofs.YtpldopoeopjcoaaGreatDoor
