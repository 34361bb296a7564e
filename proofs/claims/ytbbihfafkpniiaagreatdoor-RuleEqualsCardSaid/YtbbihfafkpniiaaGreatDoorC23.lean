/- Texts of one proof, laid together. -/
import Derived.Test.YtbbihfafkpniiaaGreatDoorC22
import Derived.Test.YtbbihfafkpniiaaGreatDoorC13
/- The reader of the program's Parse: perm and key. -/
namespace Go.Proofs.YtbbihfafkpniiaaGreatDoor
open Go.RowKit
theorem permB1_none {c : UInt8} (h : permB1 c = none) : Lib.indexByte [114, 119, 120, 97] c = -1 := by
  unfold permB1 at h
  split at h; · cases h
  split at h; · cases h
  split at h; · cases h
  split at h; · cases h
  rename_i h1 h2 h3 h4
  have e1 : ((114 : UInt8) == c) = false := by simpa using fun e => h1 e.symm
  have e2 : ((119 : UInt8) == c) = false := by simpa using fun e => h2 e.symm
  have e3 : ((120 : UInt8) == c) = false := by simpa using fun e => h3 e.symm
  have e4 : ((97 : UInt8) == c) = false := by simpa using fun e => h4 e.symm
  simp [Lib.indexByte, e1, e2, e3, e4]
theorem permB1_some {c : UInt8} {m : Nat} (h : permB1 c = some m) : ∃ j : Nat, j < 4 ∧ Lib.indexByte [114, 119, 120, 97] c = (j : Int) ∧ bitN j = (m : Int) ∧ m ≤ 8 := by
  unfold permB1 at h
  split at h
  · rename_i e; subst e; cases h; exact ⟨0, by omega, by decide, by decide, by omega⟩
  split at h
  · rename_i e; subst e; cases h; exact ⟨1, by omega, by decide, by decide, by omega⟩
  split at h
  · rename_i e; subst e; cases h; exact ⟨2, by omega, by decide, by decide, by omega⟩
  split at h
  · rename_i e; subst e; cases h; exact ⟨3, by omega, by decide, by decide, by omega⟩
  · cases h
theorem perm_or {a m j : Nat} (ha : a ≤ 15) (hj : j < 4) (hm : bitN j = (m : Int)) : bits .or .i64 (a : Int) (bitN j) = ((a ||| m : Nat) : Int) ∧ a ||| m ≤ 15 := by
  have H : ∀ (a : Fin 16) (j : Fin 4), bits .or .i64 (a.val : Int) (bitN j.val) = ((a.val ||| (bitN j.val).toNat : Nat) : Int) ∧ a.val ||| (bitN j.val).toNat ≤ 15 := by decide +kernel
  have := H ⟨a, by omega⟩ ⟨j, hj⟩
  rw [hm] at this
  rw [hm]
  exact this
theorem permL_step {a m : Nat} {l : List UInt8} {k : Nat} (hk : k < l.length) (h : permB1 l[k] = some m) : permL a (l.drop k) = permL (a ||| m) (l.drop (k + 1)) := by
  rw [List.drop_eq_getElem_cons hk]
  show (match permB1 l[k] with | some b => permL (a ||| b) (l.drop (k + 1)) | none => none) = _
  rw [h]
theorem permL_stop {a : Nat} {l : List UInt8} {k : Nat} (hk : k < l.length) (h : permB1 l[k] = none) : permL a (l.drop k) = none := by
  rw [List.drop_eq_getElem_cons hk]
  show (match permB1 l[k] with | some b => permL (a ||| b) (l.drop (k + 1)) | none => none) = _
  rw [h]
theorem pbc_at {k : Nat} (hk : k < 4) : cellsPb[k]? = some (.int .i64 (bitN k)) := by
  have : k = 0 ∨ k = 1 ∨ k = 2 ∨ k = 3 := by omega
  rcases this with rfl | rfl | rfl | rfl <;> rfl
/-- What perm leaves. -/
def PermPost (ws : List ByteArray) (A : Option Addr) (n c k : Nat) (b : Bool) (g : Nat) (s : ByteArray) (w : World) (e : Ending) (w' : World) : Prop :=
  ∃ (m : Int) (b' : Bool), e = .returned (.int .i64 m) ∧ 0 ≤ m ∧ m ≤ 15 ∧ RdS w' g A n c ws k b' ∧ (∀ q : Int, 1 ≤ q → q ≤ 15 → s = permS q → m = q ∧ b' = b) ∧ OnlyR g w w'
attribute [local irreducible] cellsPb bitN permL permB1 permS
set_option maxRecDepth 100000 in
set_option maxHeartbeats 2000000 in
theorem vperm (ws : List ByteArray) (A : Option Addr) (n c k : Nat) (b : Bool) (g : Nat) (s : ByteArray) (hs : s.size ≤ 1000000) (w : World) (h : RdS w g A n c ws k b) (hp : RPerm w) :
    Calls Tryz.prog 83 #[.pointer (some ⟨g, 0, none⟩), .string s] w (PermPost ws A n c k b g s w) := by
  have H := Lib.hid h
  have HC := Lib.hid (fun j (hj : j < 4) => (Glob.cell hp j).trans (pbc_at hj))
  have f2 := h.blk.free 2
  have k2 := RdB.c2 h.blk
  clear h hp
  go_enter Tryz.func83, Tryz.ntmps83
  go_wp2_with fail
  go_loop [5, 10] (fun v i => ∃ (i' a : Nat), i' ≤ s.size ∧ a ≤ 15 ∧ i = .int .i64 (i' : Int) ∧ v = .int .i64 (a : Int) ∧ Hid (permL 0 s.data.toList = permL a (s.data.toList.drop i'))) (fun _ i => s.size - (intOf i).toNat)
  case atStart => exact ⟨0, 0, by omega, by omega, rfl, rfl, by show permL 0 _ = permL 0 _; rw [List.drop_zero]⟩
  case round =>
    obtain ⟨i', a, hi, ha, rfl, rfl, hrel⟩ := hrel
    by_cases hlt : i' < s.size
    · have hl : i' < s.data.toList.length := by rw [bsz']; exact hlt
      have hX : (((s[i'].toNat : Nat) : Int)).toNat.toUInt8 = s.data.toList[i'] := by
        rw [Int.toNat_natCast]
        show UInt8.ofNat s[i'].toNat = _
        rw [UInt8.ofNat_toNat]; rfl
      have HI := Lib.hid (fun W => Tryz.strings_IndexByte ⟨#[114, 119, 120, 97]⟩ ((s[i'].toNat : Nat) : Int) W)
      rw [hX] at HI
      have i1 : (i' : Int) < (s.size : Int) := by omega
      have i0 : (0 : Int) ≤ (i' : Int) := by omega
      have i2 : (s.size : Int) ≤ 1000000 := by omega
      cases hb : permB1 s.data.toList[i'] with
      | none =>
        have e1 := permB1_none hb
        have HE := Lib.hid (hrel.out.trans (permL_stop hl hb))
        rw [show (⟨#[114, 119, 120, 97]⟩ : ByteArray).data.toList = [114, 119, 120, 97] from rfl, e1] at HI
        clear hb hX e1 hrel
        go_wp2_with fail
        refine (HI.out _).mono ?_
        rintro e w' ⟨rfl, rfl⟩
        go_wp2_with fail
        go_ret
        refine ⟨0, true, rfl, by omega, by omega, H.out.bad, fun q q1 q2 hq => ?_, (OnlyR.refl g _).put 2 _⟩
        have := permL_permS ⟨q1, q2⟩
        rw [← hq, HE.out] at this
        cases this
      | some m =>
        obtain ⟨j, hj, e1, e2, e3⟩ := permB1_some hb
        obtain ⟨o1, o2⟩ := perm_or ha hj e2
        have HE := Lib.hid (hrel.out.trans (permL_step hl hb))
        rw [show (⟨#[114, 119, 120, 97]⟩ : ByteArray).data.toList = [114, 119, 120, 97] from rfl, e1] at HI
        have hc := HC.out j hj
        have j0 : (0 : Int) ≤ (j : Int) := by omega
        have j1 : (j : Int) < 4 := by omega
        clear hb hX e1 hrel e2
        go_wp2_with fail
        refine (HI.out _).mono ?_
        rintro e w' ⟨rfl, rfl⟩
        go_wp2_with fail
        go_round
        case rel => exact ⟨i' + 1, a ||| m, by omega, o2, by go_num, by first | rfl | (rw [o1]), HE.out⟩
        case measure => simp [intOf]; omega
    · obtain rfl : i' = s.size := by omega
      have HE := Lib.hid (show permL 0 s.data.toList = some a by rw [hrel.out, List.drop_of_length_le (by rw [bsz']; exact Nat.le_refl _)]; unfold permL; rfl)
      clear hrel
      go_wp2_with fail
      go_ret
      refine ⟨(a : Int), b, rfl, by omega, by omega, H.out, fun q q1 q2 hq => ?_, OnlyR.refl g _⟩
      have := permL_permS ⟨q1, q2⟩
      rw [← hq, HE.out] at this
      have := Option.some.inj this
      exact ⟨by omega, rfl⟩
attribute [local irreducible] unqS unqE quoteS
set_option maxRecDepth 100000 in
set_option maxHeartbeats 1000000 in
theorem vkey (ws : List ByteArray) (hws : ∀ x ∈ ws, x.size ≤ 100000) (A : Option Addr) (n c k : Nat) (b : Bool) (g : Nat) (w0 w : World) (h : RdS w g A n c ws k b) (hG : Gl w0 g w) :
    Calls Tryz.prog 84 #[.pointer (some ⟨g, 0, none⟩)] w fun e w' => ∃ (s : ByteArray) (k' : Nat) (b' : Bool), e = .returned (.string s) ∧ s.size ≤ 640 ∧ RdS w' g A n c ws k' b' ∧ (∀ q, KeyAt ws k q → s = q ∧ k' = n ∧ b' = b) ∧ OnlyR g w w' := by
  have H := Lib.hid h
  have HG := Lib.hid hG
  have k0 := RdB.c0 h.blk
  have k1 := RdB.c1 h.blk
  have ht := h.top
  have hlow := h.low
  have HWS := Lib.hid hws
  clear h hG hws
  by_cases hk : k = n
  · subst hk
    go_enter Tryz.func84, Tryz.ntmps84
    go_wp2_with fail
    go_quiet (fail)
    go_wp2_with fail
    go_ret
    refine ⟨⟨#[]⟩, k, b, rfl, by decide, H.out.drewN _, fun q hq => ?_, (OnlyR.refl g w).drewN _⟩
    rcases hq with ⟨_, h2⟩ | ⟨h1, _⟩
    · exact ⟨h2.symm, rfl, rfl⟩
    · have := H.out.len; omega
  · have d1 : ((k : Int) == (n : Int)) = false := by simp; omega
    go_enter Tryz.func84, Tryz.ntmps84
    go_wp2_with fail
    go_quiet (fail)
    have h1 := Lib.hid (H.out.drewN nq)
    have o1 := Lib.hid ((OnlyR.refl g w).drewN nq)
    clear k0 k1 d1
    generalize w.drewN nq = w1 at *
    go_wp2_with fail
    refine (vword ws A n c k b g fK _ h1.out).mono ?_
    rintro e w2 ⟨b2, rfl, h2, e2, o2⟩
    have h2 := Lib.hid h2
    have e2 := Lib.hid e2
    have o2 := Lib.hid (o1.out.trans o2)
    go_wp2_with fail
    refine (vnext ws A n c (nextK n k) b2 g _ h2.out).mono ?_
    rintro e w3 ⟨b3, rfl, h3, e3, o3⟩
    have h3 := Lib.hid h3
    have e3 := Lib.hid e3
    have o3 := Lib.hid (o2.out.trans o3)
    have HZ := Lib.hid (wordAt_size HWS.out (nextK n k))
    have HX := Lib.hid (show wordAt ws (nextK n k) = wordAt ws (nextK n k) from rfl)
    go_wp2_with fail
    refine (vtext ws A n c (nextK n (nextK n k)) b3 g (wordAt ws (nextK n k)) (by have := HZ.out; omega) _ h3.out (HG.out.only o3.out H.out.lt).now.tb).mono ?_
    rintro e w4 ⟨b4, rfl, h4, e4, o4⟩
    have h4 := Lib.hid h4
    have e4 := Lib.hid e4
    have o4 := Lib.hid (o3.out.trans o4)
    go_wp2_with fail
    go_ret
    refine ⟨_, nextK n (nextK n k), b4, rfl, unqS_sz _, h4.out, fun q hq => ?_, o4.out⟩
    have hl := H.out.len
    rcases hq with ⟨q1, _⟩ | ⟨q1, q2, q3, q4⟩
    · omega
    · have n1 : nextK n k = k + 1 := nextK_in (by omega)
      have n2 : nextK n (k + 1) = k + 2 := nextK_in (by omega)
      have x3 := (wordAt_some q3).1
      obtain ⟨u1, u2⟩ := unq_quoteF (t := q) (by omega)
      rw [n1] at e3 e4 ⊢
      rw [n2]
      rw [x3] at e4 ⊢
      exact ⟨u1, by omega, by rw [e4.out u2, e3.out (by omega), e2.out q2]⟩
end Go.Proofs.YtbbihfafkpniiaaGreatDoor
/- The reader of the program's Parse: shorthand. -/
namespace Go.Proofs.YtbbihfafkpniiaaGreatDoor
open Go.RowKit
/-- No tests. -/
abbrev noT : Value := .slice none 0 0
theorem rul_ret1 {fn : Func} (h : fn.results = #[.cell 2 26]) (tmps : Array Value) (w : World) (g : Nat) (r : Rul) (v : Value) (hp : tmps.getD 2 undef = .pointer (some ⟨g, 0, none⟩)) (hg : RulB w g r v) :
    (results fn tmps).run Tryz.prog w = .ok (rulV r v) w :=
  results_cell_row h tmps w g _ (rulC r v) (0, 0) _ hp hg Tryz.underlying26 rfl (rul_sz r v)
/-- What shorthand and rule keep: the block of the result, the block of the rule, the reader. -/
structure HSt (w wr : World) (g : Nat) (A : Option Addr) (n c : Nat) (ws : List ByteArray) (k : Nat) (b : Bool) (r : Rul) : Prop where
  z : RulB wr w.heap.size zeroR noT
  x : RulB wr (w.heap.size + 1) r noT
  rd : RdS wr g A n c ws k b
  only : OnlyR g w wr
  lt : g < w.heap.size
section
variable {w wr w' : World} {g n c k k' : Nat} {A : Option Addr} {ws : List ByteArray} {b b' : Bool} {r r' : Rul}
theorem HSt.step (h : HSt w wr g A n c ws k b r) (hr : RdS w' g A n c ws k' b') (ho : OnlyR g wr w') : HSt w w' g A n c ws k' b' r :=
  ⟨Blk.onlyR h.z ho (by have := h.lt; omega), Blk.onlyR h.x ho (by have := h.lt; omega), hr, h.only.trans ho, h.lt⟩
theorem HSt.put (h : HSt w wr g A n c ws k b r) (i : Nat) (v : Value) (e : (rulC r noT).setIfInBounds i v = rulC r' noT) : HSt w (wr.setCell ⟨w.heap.size + 1, i, none⟩ v) g A n c ws k b r' := by
  have hl := h.lt
  have hx := Blk.put h.x i v
  rw [e] at hx
  refine ⟨Blk.put_other h.z v (by show w.heap.size ≠ w.heap.size + 1; omega), hx, ⟨Blk.put_other h.rd.blk v (by show g ≠ w.heap.size + 1; omega), h.rd.str.setCell (by show g ≤ w.heap.size + 1; omega) v, h.rd.len, h.rd.top, h.rd.low⟩, ⟨h.only.os, h.only.tape, h.only.output, by simpa [World.setCell] using h.only.size, fun i hi hne => (Below.heap_setCell _ _ _ _ (by show i ≠ w.heap.size + 1; omega)).trans (h.only.block i hi hne)⟩, hl⟩
theorem HSt.wa (h : HSt w wr g A n c ws k b r) (v : Int) : HSt w (wr.setCell ⟨w.heap.size + 1, 4, none⟩ (.int .i64 v)) g A n c ws k b { r with wa := v } := h.put 4 _ rfl
theorem HSt.pa (h : HSt w wr g A n c ws k b r) (v : ByteArray) : HSt w (wr.setCell ⟨w.heap.size + 1, 5, none⟩ (.string v)) g A n c ws k b { r with pa := v } := h.put 5 _ rfl
theorem HSt.pe (h : HSt w wr g A n c ws k b r) (v : Int) : HSt w (wr.setCell ⟨w.heap.size + 1, 6, none⟩ (.int .i64 v)) g A n c ws k b { r with pe := v } := h.put 6 _ rfl
theorem HSt.ke (h : HSt w wr g A n c ws k b r) (v : ByteArray) : HSt w (wr.setCell ⟨w.heap.size + 1, 7, none⟩ (.string v)) g A n c ws k b { r with ke := v } := h.put 7 _ rfl
theorem HSt.glob {w0 : World} (h : HSt w wr g A n c ws k b r) (hG : Gl w0 g w) : Gl w0 g wr := hG.only h.only h.lt
end
/-- A rule that shorthand makes. -/
structure HandR (r : Rul) : Prop where
  li : r.li = 3
  ac : r.ac = 1
  ca : r.ca = allCalls
  ts : r.ts = []
  wa : r.wa = 1 ∨ r.wa = 2
  pa : r.pa.size ≤ 640
  pe : 0 ≤ r.pe ∧ r.pe ≤ 15
  ke : r.ke.size ≤ 640
def HandPost (ws : List ByteArray) (A : Option Addr) (n c g : Nat) (w : World) (e : Ending) (w' : World) : Prop :=
  ∃ (r : Rul) (k' : Nat) (b' : Bool), e = .returned (rulV r noT) ∧ HandR r ∧ RdS w' g A n c ws k' b' ∧ (∀ r0, shortB r0 = true → ws = flagW r0.wa :: restW r0 → r = r0 ∧ k' = n ∧ b' = false) ∧ OnlyR g w w'
theorem hand_start (w : World) (g : Nat) (hl : g < w.heap.size) {A : Option Addr} {n c k : Nat} {ws : List ByteArray} {b : Bool} (h : RdS w g A n c ws k b) (r : Rul) :
    HSt w ((w.alloc (.cells (rulC zeroR noT) 26)).alloc (.cells (rulC r noT) 26)) g A n c ws k b r := by
  have b1 : Below w.heap.size w (w.alloc (.cells (rulC zeroR noT) 26)) := (Below.refl _ _).alloc (Nat.le_refl _) _
  have b2 : Below w.heap.size w ((w.alloc (.cells (rulC zeroR noT) 26)).alloc (.cells (rulC r noT) 26)) := b1.alloc (by simp) _
  have hx := Blk.new (w.alloc (.cells (rulC zeroR noT) 26)) (rulC r noT) 26
  have e : (w.alloc (.cells (rulC zeroR noT) 26)).heap.size = w.heap.size + 1 := by simp
  rw [e] at hx
  exact ⟨Blk.alloc (Blk.new w _ _) _, hx, h.below b2, OnlyR.of b2, hl⟩
theorem HSt.row {w wr : World} {g n c k : Nat} {A : Option Addr} {ws : List ByteArray} {b : Bool} {r : Rul} (h : HSt w wr g A n c ws k b r) (r' : Rul) : HSt w (wr.setRow (w.heap.size + 1) (rulC r' noT)) g A n c ws k b r' := by
  have hl := h.lt
  exact ⟨Blk.row_other h.z _ (by omega), Blk.row h.x _, ⟨Blk.row_other h.rd.blk _ (by omega), h.rd.str.keep (below_row (Below.refl g wr) (by omega) _) (Nat.le_refl _), h.rd.len, h.rd.top, h.rd.low⟩,
    ⟨h.only.os, h.only.tape, h.only.output, by rw [setRow_size]; exact h.only.size, fun i hi hne => (setRow_other _ _ _ _ (by omega)).trans (h.only.block i hi hne)⟩, hl⟩
theorem hand_ok {r0 : Rul} {wa pe : Int} {pa ke : ByteArray} (h : shortB r0 = true) (h1 : wa = r0.wa) (h2 : pa = r0.pa) (h3 : pe = r0.pe) (h4 : ke = r0.ke) : (⟨3, 1, allCalls, [], wa, pa, pe, ke⟩ : Rul) = r0 := by
  obtain ⟨a1, a2, a3, a4, a5, a6⟩ := shortB_spec h
  subst h1 h2 h3 h4
  cases r0; simp at *; simp [a3, a4, a5, a6]
theorem flag_wa {r0 : Rul} (h : shortB r0 = true) : (flagW r0.wa = fT → r0.wa = 2) ∧ (flagW r0.wa ≠ fT → r0.wa = 1) := by
  obtain ⟨a1, a2, _⟩ := shortB_spec h
  rcases watch_ok (checkR_zero a1) with ⟨h0, _⟩ | ⟨h1, _⟩
  · exact absurd h0 a2
  · unfold flagW
    rcases h1 with h1 | h1
    · rw [h1, if_neg (by omega)]; exact ⟨fun e => absurd e (by decide), fun _ => rfl⟩
    · rw [h1, if_pos rfl]; exact ⟨fun _ => rfl, fun e => absurd rfl e⟩
/-- What has been read, in the end. -/
theorem hand_end {ws : List ByteArray} {n : Nat} {wa pe : Int} {pa ke : ByteArray} {k' : Nat} {b1 b2 b3 b4 b5 b6 b7 : Bool} (hl : n = ws.length)
    (hwa : (wordAt ws 0 = fT ∧ wa = 2) ∨ (wordAt ws 0 ≠ fT ∧ wa = 1)) (e1 : 0 < n → b1 = false) (e2 : 1 < n → b2 = b1) (e3 : unqE (wordAt ws 1) = 0 → b3 = b2) (hp : pa = unqS (wordAt ws 1))
    (e4 : ws[2]? = some fP → b4 = b3) (e5 : 3 < n → b5 = b4) (e6 : ∀ q : Int, 1 ≤ q → q ≤ 15 → wordAt ws 3 = permS q → pe = q ∧ b6 = b5) (e7 : 3 < n → ∀ q, KeyAt ws 4 q → ke = q ∧ k' = n ∧ b7 = b6) :
    ∀ r0, shortB r0 = true → ws = flagW r0.wa :: restW r0 → (⟨3, 1, allCalls, [], wa, pa, pe, ke⟩ : Rul) = r0 ∧ k' = n ∧ b7 = false := by
  intro r0 h e
  obtain ⟨w0, w1, w2, w3, hk⟩ := short_words h e
  obtain ⟨a1, a2, _⟩ := shortB_spec h
  have hlen : 3 < ws.length := (wordAt_some w3).2
  obtain ⟨g0, g1⟩ := flag_wa h
  rw [(wordAt_some w0).1] at hwa
  rw [(wordAt_some w1).1] at e3 hp
  rw [(wordAt_some w3).1] at e6
  rcases watch_ok (checkR_zero a1) with ⟨z, _⟩ | ⟨z1, _, _, z4, z5, z6⟩
  · exact absurd z a2
  obtain ⟨u1, u2⟩ := unq_quoteF (t := r0.pa) (by omega)
  obtain ⟨p1, p2⟩ := e6 _ z5 z6 rfl
  obtain ⟨k1, k2, k3⟩ := e7 (by omega) _ hk
  refine ⟨hand_ok h ?_ (by rw [hp, u1]) p1 k1, k2, ?_⟩
  · rcases hwa with ⟨x, y⟩ | ⟨x, y⟩
    · rw [y, g0 x]
    · rw [y, g1 x]
  · rw [k3, p2, e5 (by omega), e4 w2, e3 u2, e2 (by omega), e1 (by omega)]
theorem short_len {r0 : Rul} (h : shortB r0 = true) {ws : List ByteArray} (e : ws = flagW r0.wa :: restW r0) : 3 < ws.length := (wordAt_some (short_words h e).2.2.2.1).2
theorem HSt.fin {w wr : World} {g n c k : Nat} {A : Option Addr} {ws : List ByteArray} {b : Bool} {r : Rul} (h : HSt w wr g A n c ws k b r) (r' : Rul) : RdS (wr.setRow w.heap.size (rulC r' noT)) g A n c ws k b ∧ OnlyR g w (wr.setRow w.heap.size (rulC r' noT)) := by
  have hl := h.lt
  exact ⟨⟨Blk.row_other h.rd.blk _ (by omega), h.rd.str.keep (below_row (Below.refl g wr) (by omega) _) (Nat.le_refl _), h.rd.len, h.rd.top, h.rd.low⟩,
    ⟨h.only.os, h.only.tape, h.only.output, by rw [setRow_size]; exact h.only.size, fun i hi hne => (setRow_other _ _ _ _ (by omega)).trans (h.only.block i hi hne)⟩⟩
attribute [local irreducible] unqS unqE quoteS permS permL
set_option maxRecDepth 100000 in
set_option maxHeartbeats 4000000 in
theorem vshorthand (ws : List ByteArray) (hws : ∀ x ∈ ws, x.size ≤ 100000) (A : Option Addr) (n c : Nat) (g : Nat) (w0 w : World) (h : RdS w g A n c ws 0 false) (hG : Gl w0 g w) :
    Calls Tryz.prog 52 #[.pointer (some ⟨g, 0, none⟩)] w (HandPost ws A n c g w) := by
  have H := Lib.hid h
  have HG := Lib.hid hG
  have HWS := Lib.hid hws
  have ST1 := Lib.hid (hand_start w g h.lt h ⟨3, 1, allCalls, [], 1, ⟨#[]⟩, 0, ⟨#[]⟩⟩)
  have hl := h.lt
  clear h hG hws
  go_enter Tryz.func52, Tryz.ntmps52
  go_wp2_with fail
  refine (vnext ws A n c 0 false g _ ST1.out.rd).mono ?_
  rintro e w1 ⟨b1, rfl, h1, e1, o1⟩
  have ST2 := Lib.hid (ST1.out.step h1 o1)
  have E1 := Lib.hid e1
  have c4 := RulB.c4 ST2.out.x
  have f4 := ST2.out.x.free 4
  clear h1 e1 o1 ST1
  obtain ⟨k1, hk1⟩ : ∃ k1, nextK n 0 = k1 := ⟨_, rfl⟩
  rw [hk1] at ST2
  have HK1 := Lib.hid hk1
  clear hk1
  obtain ⟨x0, hx0⟩ : ∃ x0, wordAt ws 0 = x0 := ⟨_, rfl⟩
  rw [hx0]
  have HX0 := Lib.hid hx0
  clear hx0
  obtain ⟨tb, htb, tb1, tb2⟩ := lit_dec (x := x0) fT_l
  have HT := Lib.hid (And.intro tb1 tb2)
  clear tb1 tb2
  go_upto_if 7 with (fail)
  clear htb
  go_cut [] (fun wx => ∃ wa, HSt w wx g A n c ws k1 b1 ⟨3, 1, allCalls, [], wa, ⟨#[]⟩, 0, ⟨#[]⟩⟩ ∧ ((x0 = fT ∧ wa = 2) ∨ (x0 ≠ fT ∧ wa = 1)))
  case first =>
    cases tb
    · go_wp2_with fail
      go_meet
      exact ⟨1, ST2.out, .inr ⟨HT.out.2 (by first | rfl | trivial), rfl⟩⟩
    · go_wp2_with fail
      go_meet
      exact ⟨2, ST2.out.wa 2, .inl ⟨HT.out.1 (by first | rfl | trivial), rfl⟩⟩
  case rest =>
  obtain ⟨wa, hst, hwa⟩ := hcut
  have ST2 := Lib.hid hst
  have HWA := Lib.hid hwa
  clear hst hwa c4 f4
  go_wp2_with fail
  refine (vnext ws A n c k1 b1 g _ ST2.out.rd).mono ?_
  rintro e w2 ⟨b2, rfl, h2, e2, o2⟩
  have ST3 := Lib.hid (ST2.out.step h2 o2)
  have E2 := Lib.hid e2
  clear h2 e2 o2 ST2
  obtain ⟨k2, hk2⟩ : ∃ k2, nextK n k1 = k2 := ⟨_, rfl⟩
  rw [hk2] at ST3
  have HK2 := Lib.hid hk2
  clear hk2
  obtain ⟨x1, hx1⟩ : ∃ x1, wordAt ws k1 = x1 := ⟨_, rfl⟩
  rw [hx1]
  have HX1 := Lib.hid hx1
  have HZ1 := Lib.hid (show x1.size ≤ 1000000 by rw [← hx1]; have := wordAt_size HWS.out k1; omega)
  clear hx1
  go_wp2_with fail
  refine (vtext ws A n c k2 b2 g x1 HZ1.out _ ST3.out.rd (ST3.out.glob HG.out).now.tb).mono ?_
  rintro e w3 ⟨b3, rfl, h3, e3, o3⟩
  have ST4 := Lib.hid (ST3.out.step h3 o3)
  have E3 := Lib.hid e3
  have c5 := RulB.c5 ST4.out.x
  have f5 := ST4.out.x.free 5
  have ST5 := Lib.hid (ST4.out.pa (unqS x1))
  have HS1 := Lib.hid (unqS_sz x1)
  clear h3 e3 o3 ST3
  go_wp2_with fail
  clear c5 f5 ST4
  refine (vword ws A n c k2 b3 g fP _ ST5.out.rd).mono ?_
  rintro e w4 ⟨b4, rfl, h4, e4, o4⟩
  have ST6 := Lib.hid (ST5.out.step h4 o4)
  have E4 := Lib.hid e4
  clear h4 e4 o4 ST5
  obtain ⟨k3, hk3⟩ : ∃ k3, nextK n k2 = k3 := ⟨_, rfl⟩
  rw [hk3] at ST6
  have HK3 := Lib.hid hk3
  clear hk3
  go_wp2_with fail
  refine (vnext ws A n c k3 b4 g _ ST6.out.rd).mono ?_
  rintro e w5 ⟨b5, rfl, h5, e5, o5⟩
  have ST7 := Lib.hid (ST6.out.step h5 o5)
  have E5 := Lib.hid e5
  clear h5 e5 o5 ST6
  obtain ⟨k4, hk4⟩ : ∃ k4, nextK n k3 = k4 := ⟨_, rfl⟩
  rw [hk4] at ST7
  have HK4 := Lib.hid hk4
  clear hk4
  obtain ⟨x3, hx3⟩ : ∃ x3, wordAt ws k3 = x3 := ⟨_, rfl⟩
  rw [hx3]
  have HX3 := Lib.hid hx3
  have HZ3 := Lib.hid (show x3.size ≤ 1000000 by rw [← hx3]; have := wordAt_size HWS.out k3; omega)
  clear hx3
  go_wp2_with fail
  refine (vperm ws A n c k4 b5 g x3 HZ3.out _ ST7.out.rd (ST7.out.glob HG.out).now.pb).mono ?_
  rintro e w6 ⟨pe, b6, rfl, p0, p1, h6, e6, o6⟩
  have ST8 := Lib.hid (ST7.out.step h6 o6)
  have E6 := Lib.hid e6
  have HP := Lib.hid (And.intro p0 p1)
  have c6 := RulB.c6 ST8.out.x
  have f6 := ST8.out.x.free 6
  have ST9 := Lib.hid (ST8.out.pe pe)
  clear h6 e6 o6 ST7 p0 p1
  go_wp2_with fail
  clear c6 f6 ST8
  refine (vkey ws HWS.out A n c k4 b6 g w0 _ ST9.out.rd (ST9.out.glob HG.out)).mono ?_
  rintro e w7 ⟨ke, k5, b7, rfl, hz, h7, e7, o7⟩
  have ST10 := Lib.hid (ST9.out.step h7 o7)
  have E7 := Lib.hid e7
  have HZK := Lib.hid hz
  have c7 := RulB.c7 ST10.out.x
  have f7 := ST10.out.x.free 7
  have ST11 := Lib.hid (ST10.out.ke ke)
  clear h7 e7 o7 hz ST9
  go_wp2_with (first | ((with_reducible refine load_blk ?_ 26 (.tmp 3) ?_ ST11.out.x ?_ _ Tryz.underlying26 ?_ ?_ ?_); (iterate 4 rfl); exact rul_sz _ _) | ((with_reducible refine store_blk ?_ 26 (.tmp 2) (.tmp 24) ?_ ST11.out.z (rulC ⟨3, 1, allCalls, [], wa, unqS x1, pe, ke⟩ noT) ?_ ?_ ?_ ?_ ?_ ?_); (iterate 4 rfl); (exact rul_sz _ _); rfl; (exact rul_one _ _ _ _)))
  refine bodyPost_ret (rul_ret1 (fn := Tryz.f52) rfl _ _ w.heap.size ⟨3, 1, allCalls, [], wa, unqS x1, pe, ke⟩ noT rfl (Blk.row ST11.out.z _)) rfl ?_
  refine ⟨_, k5, b7, rfl, ⟨rfl, rfl, rfl, rfl, by rcases HWA.out with h | h; exact .inr h.2; exact .inl h.2, HS1.out, HP.out, HZK.out⟩, (ST11.out.fin _).1, fun r0 h e => ?_, (ST11.out.fin _).2⟩
  have h3 : 3 < n := by rw [H.out.len]; exact short_len h e
  have a1 : k1 = 1 := by rw [← HK1.out]; exact nextK_in (by omega)
  have a2 : k2 = 2 := by rw [← HK2.out, a1]; exact nextK_in (by omega)
  have a3 : k3 = 3 := by rw [← HK3.out, a2]; exact nextK_in (by omega)
  have a4 : k4 = 4 := by rw [← HK4.out, a3]; exact nextK_in (by omega)
  have hX0 := HX0.out
  have hX1 := HX1.out
  have hX3 := HX3.out
  have hE2 := E2.out
  have hE4 := E4.out
  have hE5 := E5.out
  have hE7 := E7.out
  rw [a1] at hX1 hE2
  rw [a2] at hE4
  rw [a3] at hX3 hE5
  rw [a4] at hE7
  exact hand_end H.out.len (by rw [hX0]; exact HWA.out) E1.out hE2 (by rw [hX1]; exact E3.out) (by rw [hX1]) hE4 hE5 (by rw [hX3]; exact E6.out) (fun _ => hE7) r0 h e
end Go.Proofs.YtbbihfafkpniiaaGreatDoor
