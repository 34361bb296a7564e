/- Texts of one proof, laid together. -/
import Derived.Test.YtollifnnpihfdaaGreatDoorC16
import Derived.Test.YtollifnnpihfdaaGreatDoorC11
import Derived.Deep.DrawnRows
import Derived.Deep.RegionHeld3
import Derived.Maps.AppendAt
import Derived.Test.YtollifnnpihfdaaGreatDoorC09
import Derived.Test.YtollifnnpihfdaaGreatDoorC01
import Derived.Test.YtollifnnpihfdaaGreatDoorC13
/- strings.IndexAny at a byte 0 and a slash, of whatever text; strings.ContainsAny. -/
namespace Go.Proofs.YtollifnnpihfdaaGreatDoor
open Go.RowKit
def nbC (c : UInt8) : Bool := c == 0 || c == 47
def opsSN : ByteArray := ⟨#[0, 47]⟩
theorem ops_listN : opsSN.data.toList = [0, 47] := rfl
theorem ops_containsN (c : UInt8) : opsSN.data.toList.contains c = nbC c := by
  rw [ops_listN]
  have H : ∀ n : Fin 256, ([0, 47] : List UInt8).contains (UInt8.ofNat n.val) = nbC (UInt8.ofNat n.val) := by decide +kernel
  have := H ⟨c.toNat, c.toNat_lt⟩
  simpa using this
theorem ops_asciiN : ∀ (j : Nat) b, opsSN.data.toList[j]? = some b → b.toNat < 128 := by
  intro j b hb
  have hm := List.mem_of_getElem? hb
  rw [ops_listN] at hm
  simp at hm
  rcases hm with rfl | rfl <;> decide
theorem ops_hiN {c : UInt8} (h : 128 ≤ c.toNat) : opsSN.data.toList.contains c = false := by
  rw [← Bool.not_eq_true]
  intro hc
  rw [List.contains_iff_mem] at hc
  obtain ⟨j, hj⟩ := List.mem_iff_getElem?.1 hc
  have := ops_asciiN j c hj
  omega
theorem skip_hiN {s : ByteArray} {i k : Nat} (hn : Lib.NoAny s.data.toList opsSN.data.toList i) (hall : ∀ j b, i ≤ j → j < i + k → s.data.toList[j]? = some b → 128 ≤ b.toNat) : Lib.NoAny s.data.toList opsSN.data.toList (i + k) := fun j b hj hb => by
  by_cases h : j < i
  · exact hn j b h hb
  · exact ops_hiN (hall j b (by omega) hj hb)
theorem ops_memN : ∀ b ∈ opsSN.data.toList, b.toNat < 128 := by rw [ops_listN]; decide
theorem ops_atN (i : Nat) (hi : i < 2) (c : UInt8) (h : 128 ≤ c.toNat) : ∃ h' : i < opsSN.size, ((((opsSN[i]'h').toNat : Int)) != (c.toNat : Int)) = true := by
  have h' : i < opsSN.size := hi
  refine ⟨h', ?_⟩
  have hm := ops_memN (opsSN[i]'h') (by
    have : opsSN.data.toList[i]? = some (opsSN[i]'h') := List.getElem?_eq_getElem (by rw [bsz']; exact h')
    exact List.mem_of_getElem? this)
  simp
  omega
theorem ops_extN (i : Nat) (hi : i ≤ 2) : ∀ b ∈ (opsSN.extract i opsSN.size).data.toList, b.toNat < 128 := by
  intro b hb
  have : (opsSN.extract i opsSN.size).data.toList = opsSN.data.toList.drop i := by
    have hh : opsSN.size = opsSN.data.toList.length := (bsz' _).symm
    rw [Lib.extract_data, hh, List.take_of_length_le (by rw [List.length_drop]; omega)]
  rw [this] at hb
  exact ops_memN b (List.mem_of_mem_drop hb)
set_option maxRecDepth 100000 in
set_option maxHeartbeats 4000000 in
theorem vidxrune_zN (z : Int) (R : ByteArray) (k : Nat) (c : UInt8) (z1 : 128 ≤ z) (b1 : (z == 65533) = false) (he : Hid (Utf8.encode z = R)) (hvr : Hid (Lib.validRune z = true)) (hs : R.size = k + 1) (hk1 : 1 ≤ k) (hk3 : k ≤ 3) (hc : 128 ≤ c.toNat) (hk : k < R.size) (hR : R[k] = c) (w : World) :
    Calls Tryz.prog 292 #[.string opsSN, .int .i32 z] w fun e w' => e = .returned (.int .i64 (-1)) ∧ Below w.heap.size w w' := by
  by_cases h2 : k < 2
  · obtain ⟨hko, hne⟩ := ops_atN k (by omega) c hc
    have HX := Lib.hid (idx_hi hc _ (ops_extN (k + 1) (by omega)))
    have hsz : opsSN.size = 2 := rfl
    have HC := Lib.hid (show ∀ W, Calls Tryz.prog 300 #[.string (opsSN.extract (k + 1) 2), .int .u8 (c.toNat : Int)] W fun e w' => e = .returned (.int .i64 (-1)) ∧ w' = W from fun W =>
      (vibs (opsSN.extract (k + 1) 2) c W).mono fun _ _ h => ⟨by rw [h.1]; exact congrArg (fun x => Ending.returned (Value.int .i64 x)) HX.out, h.2.symm⟩)
    have he' := he.out
    have hs' : (R.size : Int) = (k : Int) + 1 := by omega
    have k5 : (k : Int) < 2 := by omega
    have k0 : (0 : Int) ≤ (k : Int) := by omega
    have HS := Lib.hid hs
    have hkl : k < k + 1 := by omega
    clear hs
    go_enter Tryz.func292, Tryz.ntmps292
    go_wp2_with fail
    refine (vvalidrune z _).mono ?_
    rintro e w' ⟨rfl, rfl⟩
    rw [hvr.out]
    go_wp2_with fail
    go_step3
    go_wp2_with fail
    go_loop [9] (fun i => i = .int .i64 (k : Int)) (fun _ => 0)
    case atStart => rfl
    case round =>
      subst hrel
      go_wp2_with fail
      go_step3
      go_wp2_with fail
      go_quiet (fail)
      have hbq := below_drewN (Below.refl w.heap.size w) nq
      generalize w.drewN nq = w2 at *
      go_wp2_with fail
      have c3 : (0 : Int) ≤ (k : Int) + 1 := by omega
      have c4 : (k : Int) + 1 ≤ 2 := by omega
      have c5 : IntKind.i64.wrap ((k : Int) + 1) = (k : Int) + 1 := IntWalk.i64_in _ (by omega)
      have c6 : ((k : Int) + 1).toNat = k + 1 := by omega
      go_quiet ((go_at_call 300; exact Calls.quiet_of_same (HC.out _)))
      clear c5 c6
      go_wp2_with fail
      simp +zetaDelta only [Exit.noGoto_ret, Exit.inBlock, Exit.then]
      go_ret
      exact ⟨rfl, below_drewN hbq _⟩
  · have hsz : opsSN.size = 2 := rfl
    have he' := he.out
    have hs' : (R.size : Int) = (k : Int) + 1 := by omega
    have k5 : 2 ≤ (k : Int) := by omega
    have HS := Lib.hid hs
    clear hs h2
    go_enter Tryz.func292, Tryz.ntmps292
    go_wp2_with fail
    refine (vvalidrune z _).mono ?_
    rintro e w' ⟨rfl, rfl⟩
    rw [hvr.out]
    go_wp2_with fail
    go_step3
    go_wp2_with fail
    go_loop [9] (fun i => i = .int .i64 (k : Int)) (fun _ => 0)
    case atStart => rfl
    case round =>
      subst hrel
      go_wp2_with fail
      go_ret
      exact ⟨rfl, Below.refl _ _⟩
set_option maxRecDepth 100000 in
set_option maxHeartbeats 4000000 in
theorem vidxrune_errN (w : World) :
    Calls Tryz.prog 292 #[.string opsSN, .int .i32 65533] w fun e w' => e = .returned (.int .i64 (-1)) ∧ Below w.heap.size w w' := by
  have hsz : opsSN.size = 2 := rfl
  go_enter Tryz.func292, Tryz.ntmps292
  go_wp2_with fail
  go_loopg [5, 6] 2 (fun g _ _ wx => ∃ i : Nat, i + g = 2 ∧ wx = w.iter opsSN i)
  case atStart => exact ⟨0, by omega, rfl⟩
  case round =>
    obtain ⟨i, hig, rfl⟩ := hrel
    cases gk with
    | zero =>
      obtain rfl : i = 2 := by omega
      have hnx := run_next_end (P := Tryz.prog) w opsSN 2
      go_wp2
      go_ret
      exact ⟨rfl, (Below.refl _ _).alloc (Nat.le_refl _) _⟩
    | succ g =>
      have hi : i < opsSN.size := by omega
      have ha := ops_memN (opsSN[i]'hi) (by
        have : opsSN.data.toList[i]? = some (opsSN[i]'hi) := List.getElem?_eq_getElem (by rw [bsz']; exact hi)
        exact List.mem_of_getElem? this)
      have hnx := fun ty => run_next_ascii (P := Tryz.prog) w opsSN i ty hi ha
      generalize opsSN[i] = x at *
      have b1 : ((x.toNat : Int) == 65533) = false := by simp; omega
      go_wp2_with fail
      go_roundg g
      case measure => omega
      case rel => exact ⟨i + 1, by omega, rfl⟩
theorem vidxrune_loN (x : UInt8) (hx : x.toNat < 128) (w : World) : Calls Tryz.prog 292 #[.string opsSN, .int .i32 (x.toNat : Int)] w fun e w' => e = .returned (.int .i64 (Lib.indexByte opsSN.data.toList x)) ∧ w = w' :=
  (Tryz.strings_IndexRune_ascii opsSN (x.toNat : Int) w (by omega) (by omega)).mono fun _ _ h => ⟨by rw [h.1]; simp, h.2.symm⟩
theorem vidxrune_hiN (r : Nat) (h1 : 128 ≤ r) (h2 : r ≤ 1114111) (h3 : r < 55296 ∨ 57344 ≤ r) (h4 : r ≠ 65533) (w : World) :
    Calls Tryz.prog 292 #[.string opsSN, .int .i32 (r : Int)] w fun e w' => e = .returned (.int .i64 (-1)) ∧ Below w.heap.size w w' := by
  obtain ⟨R, k, c, he, hs, hk1, hk3, hc, hk, hR⟩ := enc_hi r h1 h2 h3
  have hvr : Lib.validRune (r : Int) = true := by unfold Lib.validRune; simp; omega
  have b1 : ((r : Int) == 65533) = false := by rw [beq_eq_false_iff_ne]; omega
  exact vidxrune_zN (r : Int) R k c (by omega) b1 (Lib.hid he) (Lib.hid hvr) hs hk1 hk3 hc hk hR w
def IdxPostN (s : ByteArray) (w : World) (e : Ending) (w' : World) : Prop := Below w.heap.size w w' ∧ ((e = .returned (.int .i64 (-1)) ∧ s.data.toList.all (fun c => !nbC c) = true) ∨
  ∃ i : Nat, i < s.size ∧ e = .returned (.int .i64 (i : Int)) ∧ (s.data.toList.take i).all (fun c => !nbC c) = true ∧ ∃ c r, s.data.toList.drop i = c :: r ∧ nbC c = true)
theorem noany_allN {l : List UInt8} {i : Nat} (h : Lib.NoAny l opsSN.data.toList i) : (l.take i).all (fun c => !nbC c) = true := by
  rw [List.all_eq_true]
  intro c hc
  obtain ⟨j, hj⟩ := List.mem_iff_getElem?.1 hc
  have hji : j < i := by
    have := (List.getElem?_eq_some_iff.1 hj).1
    rw [List.length_take] at this; omega
  rw [List.getElem?_take_of_lt hji] at hj
  rw [← ops_containsN, h j c hji hj]; rfl
theorem idx_noneN {s : ByteArray} (h : Lib.NoAny s.data.toList opsSN.data.toList s.size) : s.data.toList.all (fun c => !nbC c) = true := by
  have := noany_allN h
  rwa [List.take_of_length_le (by rw [bsz']; exact Nat.le_refl _)] at this
theorem idx_someN {s : ByteArray} {i : Nat} {x : UInt8} (h : Lib.NoAny s.data.toList opsSN.data.toList i) (hx : s.data.toList[i]? = some x) (hc : opsSN.data.toList.contains x = true) :
    i < s.size ∧ (s.data.toList.take i).all (fun c => !nbC c) = true ∧ ∃ c r, s.data.toList.drop i = c :: r ∧ nbC c = true := by
  obtain ⟨hl, e⟩ := List.getElem?_eq_some_iff.1 hx
  refine ⟨by rw [bsz'] at hl; exact hl, noany_allN h, x, s.data.toList.drop (i + 1), ?_, by rw [← ops_containsN]; exact hc⟩
  rw [List.drop_eq_getElem_cons hl, e]
/-- The first byte of an operator, or none. -/
theorem noany_casesN (l : List UInt8) : (Lib.indexAny l opsSN.data.toList = -1 ∧ Lib.NoAny l opsSN.data.toList l.length) ∨ ∃ (i : Nat) (x : UInt8), Lib.indexAny l opsSN.data.toList = (i : Int) ∧ Lib.NoAny l opsSN.data.toList i ∧ l[i]? = some x ∧ opsSN.data.toList.contains x = true := by
  by_cases h : Lib.NoAny l opsSN.data.toList l.length
  · exact .inl ⟨Lib.indexAny_none h, h⟩
  · have key : ∀ d i, l.length - i = d → Lib.NoAny l opsSN.data.toList i → ¬ Lib.NoAny l opsSN.data.toList l.length → ∃ (i : Nat) (x : UInt8), Lib.NoAny l opsSN.data.toList i ∧ l[i]? = some x ∧ opsSN.data.toList.contains x = true := by
      intro d
      induction d with
      | zero =>
        intro i hd hn hno
        exact absurd (fun j b hj hb => hn j b (by omega) hb) hno
      | succ d ih =>
        intro i hd hn hno
        have hi : i < l.length := by omega
        cases hc : opsSN.data.toList.contains l[i]
        · exact ih (i + 1) (by omega) (hn.succ (List.getElem?_eq_getElem hi) hc) hno
        · exact ⟨i, l[i], hn, List.getElem?_eq_getElem hi, hc⟩
    obtain ⟨i, x, h1, h2, h3⟩ := key _ 0 rfl (Lib.NoAny.zero _ _) h
    exact .inr ⟨i, x, Lib.indexAny_hit h1 h2 h3, h1, h2, h3⟩
theorem vidx_longN (s : ByteArray) (w : World) (h8 : 8 < s.size) (hs : s.size ≤ 1000000) : Calls Tryz.prog 288 #[.string s, .string opsSN] w (IdxPostN s w) := by
  have hz := zero_of_info (P := Tryz.prog) (t := 357) (v := .agg (Array.replicate 256 (.bool false))) (n := 256) (by kernel_rfl)
  refine (Tryz.strings_IndexAny_long hz.1 s opsSN w (by decide) h8 (by omega) (by decide) ops_asciiN).mono ?_
  rintro e w' ⟨h1, h2⟩
  refine ⟨by rw [h2]; exact ((Below.refl _ _).alloc (Nat.le_refl _) _).alloc (by simp) _, ?_⟩
  rcases noany_casesN s.data.toList with ⟨k1, k2⟩ | ⟨i, x, k1, k2, k3, k4⟩
  · rw [k1] at h1
    rw [bsz'] at k2
    exact .inl ⟨h1, idx_noneN k2⟩
  · rw [k1] at h1
    obtain ⟨q1, q2, q3⟩ := idx_someN k2 k3 k4
    exact .inr ⟨i, q1, h1, q2, q3⟩
theorem idx_loN {x : UInt8} (h : opsSN.data.toList.contains x = false) : Lib.indexByte opsSN.data.toList x < 0 := by
  have := Lib.contains_iff_indexByte opsSN.data.toList x
  rw [h] at this
  have := of_decide_eq_false this.symm
  omega
theorem idx_inN {x : UInt8} (h : opsSN.data.toList.contains x = true) : 0 ≤ Lib.indexByte opsSN.data.toList x := by
  have := Lib.contains_iff_indexByte opsSN.data.toList x
  rw [h] at this
  exact of_decide_eq_true this.symm
theorem opsS_listN : opsSN.toList = [0, 47] := by decide +kernel
set_option maxRecDepth 100000 in
set_option maxHeartbeats 4000000 in
theorem vidx_shortN (s : ByteArray) (w : World) (h8 : s.size ≤ 8) : Calls Tryz.prog 288 #[.string s, .string opsSN] w (IdxPostN s w) := by
  have hemp : opsSN.toList.isEmpty = false := by rw [opsS_listN]; rfl
  have hemp2 : (opsSN.toList == []) = false := by rw [opsS_listN]; rfl
  have hsz : opsSN.size = 2 := rfl
  have h8z : decide ((8 : Int) < (s.size : Int)) = false := decide_eq_false (by omega)
  go_enter Tryz.func288, Tryz.ntmps288
  go_wp2_with fail
  refine (vascii _ _).mono ?_
  rintro e w' ⟨rfl, rfl⟩
  rw [h8z]
  go_wp2_with fail
  go_loopg [9, 10] s.size (fun g _ _ wx => ∃ i : Nat, i + g = s.size ∧ ItSt s w wx i ∧ Hid (Lib.NoAny s.data.toList opsSN.data.toList i))
  case atStart => exact ⟨0, by omega, ItSt.start s w, Lib.NoAny.zero _ _⟩
  case round =>
    obtain ⟨i, hig, hst, hno⟩ := hrel
    have HST := Lib.hid hst
    cases gk with
    | zero =>
      obtain rfl : i = s.size := by omega
      have HN := Lib.hid (idx_noneN hno.out)
      have hnx := fun ty => Lib.run_next_end_at (P := Tryz.prog) _ w.heap.size s s.size ty hst.it (Nat.lt_irrefl _)
      clear hst hno
      go_wp2_with fail
      go_ret
      exact ⟨HST.out.lt, .inl ⟨rfl, HN.out⟩⟩
    | succ g =>
      have hi : i < s.size := by omega
      obtain ⟨x, hx⟩ : ∃ x : UInt8, s[i]'hi = x := ⟨_, rfl⟩
      have hxl : s.data.toList[i]? = some x := by rw [← hx]; exact Lib.data_getElem? s i hi
      have HX := Lib.hid hxl
      by_cases hx128 : x.toNat < 128
      · have hnx := fun ty => Lib.run_next_ascii_at (P := Tryz.prog) _ w.heap.size s i ty hst.it hi (by rw [hx]; exact hx128)
        rw [hx] at hnx
        have HM := Lib.hid (hst.move (i + 1))
        clear hxl hx hst
        cases hin : opsSN.data.toList.contains x
        · have hneg := idx_loN hin
          have HIN := Lib.hid hin
          clear hin
          go_wp2_with fail
          refine (vidxrune_loN x hx128 _).mono ?_
          rintro e w' ⟨rfl, rfl⟩
          go_wp2_with fail
          go_roundg g
          case measure => omega
          case rel => exact ⟨i + 1, by omega, HM.out, Lib.hid (hno.out.succ HX.out HIN.out)⟩
        · have hpos := idx_inN hin
          have HIN := Lib.hid (idx_someN hno.out HX.out hin)
          clear hin
          go_wp2_with fail
          refine (vidxrune_loN x hx128 _).mono ?_
          rintro e w' ⟨rfl, rfl⟩
          go_wp2_with fail
          go_ret
          exact ⟨HM.out.lt, .inr ⟨i, HIN.out.1, rfl, HIN.out.2.1, HIN.out.2.2⟩⟩
      · have hspec := hi_spec s i hi (by rw [hx]; omega)
        have hnx := fun ty => Lib.run_next_any_at (P := Tryz.prog) _ w.heap.size s i ty hst.it hi
        generalize (Utf8.decode s i).1 = r at *
        generalize (Utf8.decode s i).2 = k at *
        have HM := Lib.hid (hst.move (i + k))
        have HSK := Lib.hid (skip_hiN hno.out hspec.all)
        have hk1 := hspec.pos
        have hk2 := hspec.fit
        have HV := Lib.hid (fun (W : World) (hr : r ≠ 65533) => vidxrune_hiN r hspec.lo hspec.top hspec.ok hr W)
        clear hxl hx hst hspec hx128
        by_cases hr : r = 65533
        · subst hr
          go_wp2_with fail
          refine (vidxrune_errN _).mono ?_
          rintro e w2 ⟨rfl, hb⟩
          have HM2 := Lib.hid (HM.out.below hb)
          clear hb
          go_wp2_with fail
          go_roundg (s.size - (i + k))
          case measure => omega
          case rel => exact ⟨i + k, by omega, HM2.out, HSK⟩
        · have HV2 := Lib.hid (fun W => HV.out W hr)
          clear hr HV
          obtain ⟨z, hz⟩ : ∃ z : Int, z = (r : Int) := ⟨_, rfl⟩
          rw [← hz] at hnx HV2
          clear hz
          go_wp2_with fail
          refine (HV2.out _).mono ?_
          rintro e w2 ⟨rfl, hb⟩
          have HM2 := Lib.hid (HM.out.below hb)
          clear hb
          go_wp2_with fail
          go_roundg (s.size - (i + k))
          case measure => omega
          case rel => exact ⟨i + k, by omega, HM2.out, HSK⟩
theorem vindexanyN (s : ByteArray) (w : World) (hs : s.size ≤ 1000000) : Calls Tryz.prog 288 #[.string s, .string opsSN] w (IdxPostN s w) := by
  by_cases h : s.size ≤ 8
  · exact vidx_shortN s w h
  · exact vidx_longN s w (by omega) hs
theorem nbC_not (c : UInt8) : (!nbC c) = nsC c := by unfold nbC nsC; cases h1 : c == 0 <;> cases h2 : c == 47 <;> simp [bne, h1, h2]
theorem vcontainsany (s : ByteArray) (w : World) (hs : s.size ≤ 1000000) : Calls Tryz.prog 279 #[.string s, .string opsSN] w fun e w' => e = .returned (.bool (!(s.data.toList.all nsC))) ∧ Below w.heap.size w w' := by
  have HE := Lib.hid (show (s.data.toList.all fun c => !nbC c) = s.data.toList.all nsC by congr 1; funext c; exact nbC_not c)
  go_enter Tryz.func279, Tryz.ntmps279
  go_wp2_with fail
  refine (vindexanyN s _ hs).mono ?_
  rintro e w1 ⟨hb, (⟨rfl, h1⟩ | ⟨i, h1, rfl, h2, c, r, h3, h4⟩)⟩
  · have HB := Lib.hid hb
    have HR := Lib.hid (show s.data.toList.all nsC = true by rw [← HE.out]; exact h1)
    clear hb h1
    go_wp2_with fail
    go_ret
    exact ⟨by rw [HR.out]; rfl, HB.out⟩
  · have HB := Lib.hid hb
    have HR := Lib.hid (show s.data.toList.all nsC = false by
      rw [← HE.out, ← Bool.not_eq_true]; intro hall
      have hm : c ∈ s.data.toList := List.mem_of_mem_drop (by rw [h3]; exact List.mem_cons_self)
      have := List.all_eq_true.1 hall c hm
      rw [h4] at this; cases this)
    have i0 : (0 : Int) ≤ (i : Int) := by omega
    clear hb h1 h2 h3
    go_wp2_with fail
    go_ret
    exact ⟨by rw [HR.out]; rfl, HB.out⟩
end Go.Proofs.YtollifnnpihfdaaGreatDoor
/- More small functions of rules: letters, quoting, the reference's lists. -/
namespace Go.Proofs.YtollifnnpihfdaaGreatDoor
open Go.RowKit
theorem pb_index (k : Nat) (hk : k < 4) (w : World) : (Instr.index 48 (.agg cellsPb) (.int .i64 k)).run Tryz.prog w = .ok (cellsPb.getD k undef) w := by
  have : k = 0 ∨ k = 1 ∨ k = 2 ∨ k = 3 := by omega
  rcases this with h | h | h | h <;> (subst h; clear hk; show _ = _; kernel_rfl)
/-- The letters of the first k bits. -/
def permK (a b c d : Bool) (k : Nat) : ByteArray := permB (a && decide (1 ≤ k)) (b && decide (2 ≤ k)) (c && decide (3 ≤ k)) (d && decide (4 ≤ k))
theorem permK_all (a b c d : Bool) : permK a b c d 4 = permB a b c d := by simp [permK]
theorem permK_none (a b c d : Bool) : permK a b c d 0 = ⟨#[]⟩ := by cases a <;> cases b <;> cases c <;> cases d <;> rfl
def bitB (a b c d : Bool) (k : Nat) : Bool := if k = 0 then a else if k = 1 then b else if k = 2 then c else d
def bitN (k : Nat) : Int := if k = 0 then 4 else if k = 1 then 2 else if k = 2 then 1 else 8
theorem permK_yes {a b c d : Bool} {k : Nat} (hk : k < 4) (h : bitB a b c d k = true) : permK a b c d (k + 1) = permK a b c d k ++ (⟨#[114, 119, 120, 97]⟩ : ByteArray).extract k (k + 1) := by
  have : k = 0 ∨ k = 1 ∨ k = 2 ∨ k = 3 := by omega
  rcases this with rfl | rfl | rfl | rfl
  · revert a b c d; decide +kernel
  · revert a b c d; decide +kernel
  · revert a b c d; decide +kernel
  · revert a b c d; decide +kernel
theorem permK_no {a b c d : Bool} {k : Nat} (hk : k < 4) (h : bitB a b c d k = false) : permK a b c d (k + 1) = permK a b c d k := by
  have : k = 0 ∨ k = 1 ∨ k = 2 ∨ k = 3 := by omega
  rcases this with rfl | rfl | rfl | rfl
  · revert a b c d; decide +kernel
  · revert a b c d; decide +kernel
  · revert a b c d; decide +kernel
  · revert a b c d; decide +kernel
theorem permK_size (a b c d : Bool) (k : Nat) : (permK a b c d k).size ≤ 4 := by
  unfold permK
  generalize (a && decide (1 ≤ k)) = a
  generalize (b && decide (2 ≤ k)) = b
  generalize (c && decide (3 ≤ k)) = c
  generalize (d && decide (4 ≤ k)) = d
  revert a b c d
  decide +kernel
theorem pb_at {k : Nat} (hk : k < 4) : cellsPb.getD k undef = .int .i64 (bitN k) := by
  have : k = 0 ∨ k = 1 ∨ k = 2 ∨ k = 3 := by omega
  rcases this with rfl | rfl | rfl | rfl <;> rfl
theorem perm_and {n : Int} {a b c d : Bool} (e1 : bits .and .i64 n 4 = (if a then 4 else 0)) (e2 : bits .and .i64 n 2 = (if b then 2 else 0)) (e3 : bits .and .i64 n 1 = (if c then 1 else 0)) (e4 : bits .and .i64 n 8 = (if d then 8 else 0)) {k : Nat} (hk : k < 4) :
    (bits .and .i64 n (bitN k) != 0) = bitB a b c d k := by
  have : k = 0 ∨ k = 1 ∨ k = 2 ∨ k = 3 := by omega
  rcases this with rfl | rfl | rfl | rfl
  · show (bits .and .i64 n 4 != 0) = a; rw [e1]; cases a <;> rfl
  · show (bits .and .i64 n 2 != 0) = b; rw [e2]; cases b <;> rfl
  · show (bits .and .i64 n 1 != 0) = c; rw [e3]; cases c <;> rfl
  · show (bits .and .i64 n 8 != 0) = d; rw [e4]; cases d <;> rfl
attribute [local irreducible] cellsPb permK bitN bitB
set_option maxRecDepth 100000 in
set_option maxHeartbeats 2000000 in
theorem vletters (n : Int) (h : 0 ≤ n ∧ n ≤ 15) (w : World) (hpb : RPerm w) : Calls Tryz.prog 123 #[.int .i64 n] w fun e w' => e = .returned (.string (permS n)) ∧ w = w' := by
  obtain ⟨tt, fr, hg⟩ := hpb
  obtain ⟨a, b, c, d, h1, h2, h3, h4, e1, e2, e3, e4⟩ := bit_cases h
  rw [permS_bits, h1, h2, h3, h4]
  have HB := Lib.hid (fun (k : Nat) (hk : k < 4) => perm_and e1 e2 e3 e4 hk)
  clear h1 h2 h3 h4 h e1 e2 e3 e4
  go_enter Tryz.func123, Tryz.ntmps123
  go_wp2_with (refine wpList_load_row rfl 48 _ rfl 5 rfl tt _ fr _ hg Tryz.underlying48 rfl (by kernel_rfl) ?_)
  clear hg
  go_loop [3, 7] (fun s i => ∃ k : Nat, k ≤ 4 ∧ i = .int .i64 (k : Int) ∧ s = .string (permK a b c d k)) (fun _ i => 4 - (intOf i).toNat)
  case atStart => exact ⟨0, by omega, rfl, by rw [permK_none]⟩
  case round =>
    obtain ⟨k, hk, rfl, rfl⟩ := hrel
    by_cases hlt : k < 4
    · have hi := pb_index k hlt
      rw [pb_at hlt] at hi
      have hb := HB.out k hlt
      have hs4 := permK_size a b c d k
      cases hbit : bitB a b c d k
      · rw [hbit] at hb
        have HN := Lib.hid (permK_no hlt hbit)
        clear hbit
        go_wp2_with fail
        go_round
        case rel => exact ⟨k + 1, by omega, by go_num, by rw [HN.out]⟩
        case measure => simp [intOf]; omega
      · rw [hbit] at hb
        have HN := Lib.hid (permK_yes hlt hbit)
        clear hbit
        have k0 : (0 : Int) ≤ (k : Int) := by omega
        have k1 : (k : Int) + 1 ≤ 4 := by omega
        have k2 : (k : Int) ≤ (k : Int) + 1 := by omega
        have k3 : ((k : Int) + 1).toNat = k + 1 := by omega
        have kz : ((⟨#[114, 119, 120, 97]⟩ : ByteArray).extract k (k + 1)).size ≤ 4 := by rw [ByteArray.size_extract]; show min (k + 1) 4 - k ≤ 4; omega
        generalize hX : (⟨#[114, 119, 120, 97]⟩ : ByteArray).extract k (k + 1) = X at *
        go_wp2_with fail
        go_round
        case rel => exact ⟨k + 1, by omega, by go_num, by rw [HN.out]⟩
        case measure => simp [intOf]; omega
    · obtain rfl : k = 4 := by omega
      go_wp2_with fail
      go_ret
      exact ⟨by rw [permK_all]; rfl, rfl⟩
theorem vquoteR (s : ByteArray) (w : World) (hm : s.size ≤ maxLen) (ht : Tab w) : Calls Tryz.prog 122 #[.string s] w fun e w' => e = .returned (.string (quoteS s)) ∧ Below w.heap.size w w' := by
  go_enter Tryz.func122, Tryz.ntmps122
  go_wp2_with fail
  refine (vquote s _ hm ht).mono ?_
  rintro e w1 ⟨rfl, hb⟩
  go_wp2_with fail
  go_ret
  exact ⟨rfl, hb⟩
theorem rquoteR (s : ByteArray) (w : World) (hm : s.size ≤ maxLen) : Calls Tryz.prog 129 #[.string s] w fun e w' => e = .returned (.string (quoteS s)) ∧ Below w.heap.size w w' := by
  go_enter Tryz.func129, Tryz.ntmps129
  go_wp2_with fail
  refine (rquote s _ hm).mono ?_
  rintro e w1 ⟨rfl, hb⟩
  go_wp2_with fail
  go_ret
  exact ⟨rfl, hb⟩
theorem ractions (w : World) : Calls Tryz.prog 125 #[] w fun e w' => e = .returned (.slice (some ⟨w.heap.size, 0, none⟩) 3 3) ∧ Glob w' w.heap.size cellsAc ∧ Below w.heap.size w w' := by
  go_enter Tryz.func125, Tryz.ntmps125
  go_wp2
  go_ret
  exact ⟨rfl, ⟨_, _, heap_alloc_new w _⟩, (Below.refl _ _).alloc (Nat.le_refl _) _⟩
theorem rlists (w : World) : Calls Tryz.prog 126 #[] w fun e w' => e = .returned (.slice (some ⟨w.heap.size, 0, none⟩) 6 6) ∧ Glob w' w.heap.size cellsLi ∧ Below w.heap.size w w' := by
  go_enter Tryz.func126, Tryz.ntmps126
  go_wp2
  go_ret
  exact ⟨rfl, ⟨_, _, heap_alloc_new w _⟩, (Below.refl _ _).alloc (Nat.le_refl _) _⟩
attribute [local irreducible] cellsLi cellsAc listN actN
end Go.Proofs.YtollifnnpihfdaaGreatDoor
/- append of a slice of strings, nil or not, to strings of the call's own. -/
namespace Go.Proofs.YtollifnnpihfdaaGreatDoor
open Go.RowKit
theorem run_append_strs (w : World) (base : Nat) (ty : TypeId) (v : Value) (L : List ByteArray) (B : Nat) (A : Option Addr) (n c : Nat) (ss : List ByteArray) (hn : n = ss.length) (hown : OwnS w base v L) (hr : StrsAt w B A ss) (hlen : L.length + ss.length ≤ 1000000) (hbase : base ≤ w.heap.size) :
    ∃ v' w', (Builtin.append_ #[49, 49] ty #[v, .slice A n c]).run Tryz.prog w = .ok v' w' ∧ OwnS w' base v' (L ++ ss) ∧ w.grownBy w' v.ownBlock ∧ (v'.ownBlock = v.ownBlock ∨ v'.ownBlock = some w.heap.size) := by
  subst hn
  obtain ⟨i0, hi, hz0, hz1, hz2⟩ := info_parts Tryz.infoS
  have h := hown.out
  rcases A with _ | ad
  · have hss : ss = [] := by
      cases ss with
      | nil => rfl
      | cons s r => obtain ⟨ad, e, _⟩ := hr 0 (by simp); cases e
    subst hss
    refine ⟨v, w, ?_, by simpa using hown, World.grownBy.refl w _, .inl rfl⟩
    rcases h.2 with ⟨rfl, _⟩ | ⟨g, cap, cur, rfl, _, _, hnc, _⟩
    · simp [Builtin.append_, run_underlying Tryz.underlying49, sizeOf, typeInfo, hi, Builtin.lenOf, Builtin.firstCells]
    · simp [Builtin.append_, run_underlying Tryz.underlying49, sizeOf, typeInfo, hi, Builtin.lenOf, Builtin.firstCells, hnc, storeCells]
  · obtain ⟨v', w', hrun, h2, h3, _, h5⟩ := run_append_own_at (P := Tryz.prog) w base 49 ty 9 i0 _ 1 16 Tryz.underlying49 hi hz0 hz1 hz2 rfl (by omega) v L.length _ h ad ss.length c (ss.map Value.string) (by simp) (fun j u hu => by
      have hj : j < ss.length := by have := (List.getElem?_eq_some_iff.1 hu).1; simpa using this
      obtain ⟨ad', e, _, hc⟩ := hr j hj
      cases e
      rw [hc, ← hu, List.getElem?_map, List.getElem?_eq_getElem hj]; rfl) (by
      intro u hu
      obtain ⟨s, _, rfl⟩ := List.mem_map.1 hu
      rfl) (by unfold maxLen; omega) (by omega) hbase
    refine ⟨v', w', hrun, ?_, h3, h5⟩
    show w'.ownsRow base 9 1 v' (L ++ ss).length ((L ++ ss).map Value.string)
    simpa using h2
theorem wp_append_strs {o : Oper} {a : Act} {w : World} {K : Act → World → Prop} {Q : Exit → Act → World → Prop} (s x : Operand) (ho : o.op = .call { callee := .builtin .append, args := #[s, x], argTypes := #[49, 49] })
    (base : Nat) (v : Value) (L : List ByteArray) (hs : a.eval s = v) (hown : OwnS w base v L) (B : Nat) (A : Option Addr) (n c : Nat) (ss : List ByteArray) (hx : a.eval x = .slice A n c) (hn : n = ss.length) (hr : StrsAt w B A ss) (hlen : L.length + ss.length ≤ 1000000) (hbase : base ≤ w.heap.size)
    (h : ∀ v' w', OwnS w' base v' (L ++ ss) → w.grownBy w' v.ownBlock → (v'.ownBlock = v.ownBlock ∨ v'.ownBlock = some w.heap.size) → K (a.put o.dst v') w') : o.wp Tryz.prog a w K Q := by
  obtain ⟨v', w', hrun, h2, h3, h4⟩ := run_append_strs w base o.type v L B A n c ss hn hown hr hlen hbase
  unfold Oper.wp execOp
  simp only [ho, resolve, invoke, builtin, Sem.run_bind, Sem.run_pure, Result.andThen_ok, List.map_toArray, List.map_cons, List.map_nil, hs, hx, hrun]
  exact h v' w' h2 h3 h4
theorem wpList_append_strs {ops : Array Oper} {rest : List Oper} {o : Oper} {a : Act} {w : World} {Q : Exit → Act → World → Prop} (hgd : o.guard = none) (s x : Operand) (ho : o.op = .call { callee := .builtin .append, args := #[s, x], argTypes := #[49, 49] })
    (base : Nat) (v : Value) (L : List ByteArray) (hs : a.eval s = v) (hown : OwnS w base v L) (B : Nat) (A : Option Addr) (n c : Nat) (ss : List ByteArray) (hx : a.eval x = .slice A n c) (hn : n = ss.length) (hr : StrsAt w B A ss) (hlen : L.length + ss.length ≤ 1000000) (hbase : base ≤ w.heap.size)
    (h : ∀ v' w', OwnS w' base v' (L ++ ss) → w.grownBy w' v.ownBlock → (v'.ownBlock = v.ownBlock ∨ v'.ownBlock = some w.heap.size) → wpList Tryz.prog ops Q rest (a.put o.dst v') w') : wpList Tryz.prog ops Q (o :: rest) a w :=
  wpList_plain hgd fun _ hK => wp_append_strs s x ho base v L hs hown B A n c ss hx hn hr hlen hbase fun v' w' h2 h3 h4 => hK _ _ (h v' w' h2 h3 h4)
theorem step_append_strs {ops : Array Oper} {o : Oper} {a : Act} {w : World} {K : Act → World → Prop} {Q : Exit → Act → World → Prop} {E : Prop} (hgd : o.guard = none) (s x : Operand) (ho : o.op = .call { callee := .builtin .append, args := #[s, x], argTypes := #[49, 49] })
    (base : Nat) (v : Value) (L : List ByteArray) (hs : a.eval s = v) (hown : OwnS w base v L) (B : Nat) (A : Option Addr) (n c : Nat) (ss : List ByteArray) (hx : a.eval x = .slice A n c) (hn : n = ss.length) (hr : StrsAt w B A ss) (hlen : L.length + ss.length ≤ 1000000) (hbase : base ≤ w.heap.size)
    (h : ∀ v' w', OwnS w' base v' (L ++ ss) → w.grownBy w' v.ownBlock → (v'.ownBlock = v.ownBlock ∨ v'.ownBlock = some w.heap.size) → K (a.put o.dst v') w') :
    if Region.wanted o (yielded ops a.tmps) = true then Oper.wp Tryz.prog o a w K Q else E := by
  have hw : Region.wanted o (yielded ops a.tmps) = true := by simp [Region.wanted, hgd]
  rw [if_pos hw]
  exact wp_append_strs s x ho base v L hs hown B A n c ss hx hn hr hlen hbase h
theorem StrsAt.grown {w w' : World} {B : Nat} {A : Option Addr} {ss : List ByteArray} (h : StrsAt w B A ss) {row : Option Nat} (hg : w.grownBy w' row) (hB : B ≤ w.heap.size) (hr : ∀ r, row = some r → B ≤ r) : StrsAt w' B A ss := fun k hk => by
  obtain ⟨ad, e, hl, hc⟩ := h k hk
  exact ⟨ad, e, hl, (World.cell?_of_block (hg.block _ (by rw [strs_block]; omega) (fun e => by have := hr _ e.symm; rw [strs_block] at this; omega))).trans hc⟩
theorem cell_grown {w w' : World} {row : Option Nat} {p : Addr} {v : Value} (hg : w.grownBy w' row) (h : w.cell? p = some v) (hne : ∀ r, row = some r → r ≠ p.block) : w'.cell? p = some v :=
  (World.cell?_of_block (hg.block _ (block_lt_of_cell h) (fun e => hne _ e.symm rfl))).trans h
theorem OwnS.ge {w : World} {base : Nat} {v : Value} {L : List ByteArray} (h : OwnS w base v L) : ∀ r, v.ownBlock = some r → base ≤ r := fun r hr => (World.ownsRow.lt h r hr).1
theorem OwnS.strs {w : World} {base : Nat} {v : Value} {L : List ByteArray} (h : OwnS w base v L) : ∃ A c, v = .slice A L.length c ∧ StrsAt w w.heap.size A L := by
  rcases Joins.ownsRow_forms h.out with ⟨rfl, h0⟩ | ⟨g, cap, rfl⟩
  · have : L = [] := List.eq_nil_of_length_eq_zero h0
    subst this
    exact ⟨none, 0, rfl, StrsAt.nil⟩
  · refine ⟨_, cap, rfl, fun k hk => ⟨_, rfl, (h.out.lt g rfl).2, ?_⟩⟩
    exact World.ownsRow.cells h (g := g) rfl k _ (by rw [List.getElem?_map, List.getElem?_eq_getElem hk]; rfl)
end Go.Proofs.YtollifnnpihfdaaGreatDoor
/- The walk of kauditref01.Cut: it returns the pieces of a text that is cut at each byte c, in a slice of its own. -/
namespace Go.Proofs.YtollifnnpihfdaaGreatDoor
open Go.RowKit
theorem one_new (w : World) (x : ByteArray) (t : TypeId) : StrsAt (w.alloc (.cells #[.string x] t)) (w.heap.size + 1) (some ⟨w.heap.size, 0, none⟩) [x] := fun k hk => by
  have hk : k = 0 := by simp at hk; omega
  subst hk
  exact ⟨_, rfl, by show w.heap.size < _; omega, by show World.cell? _ ⟨w.heap.size, 0, none⟩ = _; rw [(Blk.new w #[.string x] t).cell]; rfl⟩
def CutPost (c : UInt8) (s : ByteArray) (w : World) (e : Ending) (w' : World) : Prop := ∃ (v : Value) (L : List ByteArray), e = .returned v ∧ IsW c s L ∧ OwnS w' w.heap.size v L ∧ Below w.heap.size w w'
theorem OwnS.grownBelow {w w1 wr w2 : World} {v v' : Value} {L L' : List ByteArray} (ho : OwnS w1 w.heap.size v L) (hb : Below w.heap.size w wr) {o : Obj} (hw : w1 = wr.alloc o) (hg : w1.grownBy w2 v.ownBlock) (_h : OwnS w2 w.heap.size v' L') : Below w.heap.size w w2 := by
  subst hw
  have h1 := hb.alloc hb.size o
  exact h1.grown hg (by have := hb.size; simp; omega) (fun r hr => ho.ge r hr)
end Go.Proofs.YtollifnnpihfdaaGreatDoor
/- Names and clean paths of the program and of the reference: contracts of Name and of the reference's Split and Clean. -/
namespace Go.Proofs.YtollifnnpihfdaaGreatDoor
open Go.RowKit
theorem nameB_zero {s : ByteArray} (h : s.size = 0) : nameB s = false := by unfold nameB; simp [h]
theorem nameB_long {s : ByteArray} (h : 12 < s.size) : nameB s = false := by
  unfold nameB
  have : decide (s.size ≤ 12) = false := decide_eq_false (by omega)
  simp [this]
theorem nameB_dot {s : ByteArray} (h : (s.toList == [46]) = true) : nameB s = false := by unfold nameB; simp [h]
theorem nameB_dots {s : ByteArray} (h : (s.toList == [46, 46]) = true) : nameB s = false := by unfold nameB; simp [h]
theorem nameB_all {s : ByteArray} (h0 : s.size ≠ 0) (h1 : s.size ≤ 12) (h2 : (s.toList == [46]) = false) (h3 : (s.toList == [46, 46]) = false) : nameB s = s.data.toList.all nsC := by
  unfold nameB
  have a : decide (1 ≤ s.size) = true := decide_eq_true (by omega)
  have b : decide (s.size ≤ 12) = true := decide_eq_true h1
  rw [a, b, h2, h3]; simp
attribute [local irreducible] nameB
set_option maxRecDepth 100000 in
set_option maxHeartbeats 2000000 in
theorem vpname (s : ByteArray) (hs : s.size ≤ 1000000) (w : World) : Calls Tryz.prog 267 #[.string s] w fun e w' => e = .returned (.bool (nameB s)) ∧ Below w.heap.size w w' := by
  by_cases h0 : s.size = 0
  · have HR := Lib.hid (nameB_zero h0)
    have e1 := emptyF h0
    clear h0
    go_enter Tryz.func267, Tryz.ntmps267
    go_wp2_with fail
    go_ret
    exact ⟨ret_b HR.out.symm, Below.refl _ _⟩
  have e1 := nonemptyF h0
  have e2 : s.toList.isEmpty = false := by simpa using e1
  by_cases h1 : 12 < s.size
  · have HR := Lib.hid (nameB_long h1)
    have h1' : ¬ ((s.size : Int) ≤ 12) := by omega
    clear h0 h1
    go_enter Tryz.func267, Tryz.ntmps267
    go_wp2_with fail
    go_ret
    exact ⟨ret_b HR.out.symm, Below.refl _ _⟩
  have h1' : ((s.size : Int) ≤ 12) := by omega
  cases h2 : s.toList == [46]
  · have b2 : (s.toList != [46]) = true := by simp [bne, h2]
    cases h3 : s.toList == [46, 46]
    · have b3 : (s.toList != [46, 46]) = true := by simp [bne, h3]
      have HR := Lib.hid (nameB_all h0 (by omega) h2 h3)
      have HC := Lib.hid (fun W => vcontainsany s W hs)
      unfold opsSN at HC
      clear h0 h1
      go_enter Tryz.func267, Tryz.ntmps267
      go_wp2_with fail
      refine (HC.out _).mono ?_
      rintro e w1 ⟨rfl, hb⟩
      have HB := Lib.hid hb
      clear hb
      generalize s.data.toList.all nsC = b at *
      cases b
      all_goals
        go_wp2_with fail
        go_ret
        exact ⟨ret_b HR.out.symm, HB.out⟩
    · have b3 : (s.toList != [46, 46]) = false := by simp [bne, h3]
      have HR := Lib.hid (nameB_dots h3)
      clear h0 h1
      go_enter Tryz.func267, Tryz.ntmps267
      go_wp2_with fail
      go_ret
      exact ⟨ret_b HR.out.symm, Below.refl _ _⟩
  · have b2 : (s.toList != [46]) = false := by simp [bne, h2]
    have HR := Lib.hid (nameB_dot h2)
    clear h0 h1
    go_enter Tryz.func267, Tryz.ntmps267
    go_wp2_with fail
    go_ret
    exact ⟨ret_b HR.out.symm, Below.refl _ _⟩
theorem all_take_snoc (f : UInt8 → Bool) (s : ByteArray) (k : Nat) (h : k < s.size) (h0 : (s.data.toList.take k).all f = true) (h1 : f s[k] = true) : (s.data.toList.take (k + 1)).all f = true := by
  rw [take_snoc s k h, List.all_append, h0]; simp [h1]
theorem all_stopW (f : UInt8 → Bool) (s : ByteArray) (k : Nat) (h : k < s.size) (h1 : f s[k] = false) : s.data.toList.all f = false := by
  rw [← Bool.not_eq_true]; intro hall
  have := (List.all_eq_true.1 hall) s[k] (Array.mem_toList_iff.2 (Array.getElem_mem (xs := s.data) h))
  rw [h1] at this; cases this
theorem nsC_zero {c : UInt8} (h : ((c.toNat : Int) == 0) = true) : nsC c = false := by
  have : c.toNat = 0 := by simpa using h
  have : c = 0 := UInt8.toNat_inj.1 this
  subst this; rfl
theorem nsC_slash {c : UInt8} (h : ((c.toNat : Int) == 47) = true) : nsC c = false := by
  have : (c.toNat : Int) = 47 := by simpa using h
  have : c = 47 := UInt8.toNat_inj.1 (by show c.toNat = 47; omega)
  subst this; rfl
theorem nsC_ok {c : UInt8} (h0 : ((c.toNat : Int) == 0) = false) (h1 : ((c.toNat : Int) == 47) = false) : nsC c = true := by
  have a : c ≠ 0 := fun e => by rw [e] at h0; cases h0
  have b : c ≠ 47 := fun e => by rw [e] at h1; cases h1
  unfold nsC; simp [a, b]
set_option maxRecDepth 100000 in
set_option maxHeartbeats 2000000 in
theorem rpname (s : ByteArray) (w : World) : Calls Tryz.prog 197 #[.string s] w fun e w' => e = .returned (.bool (nameB s)) ∧ w = w' := by
  by_cases h0 : s.size = 0
  · have HR := Lib.hid (nameB_zero h0)
    have h0' : (s.size : Int) < 1 := by omega
    clear h0
    go_enter Tryz.func197, Tryz.ntmps197
    go_wp2_with fail
    go_ret
    exact ⟨ret_b HR.out.symm, rfl⟩
  have h0' : ¬ ((s.size : Int) < 1) := by omega
  by_cases h1 : 12 < s.size
  · have HR := Lib.hid (nameB_long h1)
    have h1' : (12 : Int) < (s.size : Int) := by omega
    clear h0 h1
    go_enter Tryz.func197, Tryz.ntmps197
    go_wp2_with fail
    go_ret
    exact ⟨ret_b HR.out.symm, rfl⟩
  have h1' : ¬ ((12 : Int) < (s.size : Int)) := by omega
  cases h2 : s.toList == [46]
  · cases h3 : s.toList == [46, 46]
    · have HR := Lib.hid (nameB_all h0 (by omega) h2 h3)
      have hs12 : s.size ≤ 12 := by omega
      clear h0 h1
      go_enter Tryz.func197, Tryz.ntmps197
      go_wp2_with fail
      go_loop [3] (fun i => ∃ k : Nat, k ≤ s.size ∧ i = .int .i64 (k : Int) ∧ Hid ((s.data.toList.take k).all nsC = true)) (fun i => s.size - (intOf i).toNat)
      case atStart => exact ⟨0, Nat.zero_le _, rfl, rfl⟩
      case round =>
        obtain ⟨k, hk, rfl, hall⟩ := hrel
        by_cases hlt : k < s.size
        · cases c0 : ((s[k].toNat : Int) == 0)
          · cases c1 : ((s[k].toNat : Int) == 47)
            · have HN := Lib.hid (all_take_snoc nsC s k hlt hall.out (nsC_ok c0 c1))
              go_wp2_with fail
              go_round
              case rel => exact ⟨k + 1, by omega, by go_num, HN.out⟩
              case measure => simp [intOf]; omega
            · have HN := Lib.hid (all_stopW nsC s k hlt (nsC_slash c1))
              go_wp2_with fail
              go_ret
              exact ⟨ret_b (HR.out.trans HN.out).symm, rfl⟩
          · have HN := Lib.hid (all_stopW nsC s k hlt (nsC_zero c0))
            go_wp2_with fail
            go_ret
            exact ⟨ret_b (HR.out.trans HN.out).symm, rfl⟩
        · have HN := Lib.hid (show s.data.toList.all nsC = true by have := hall.out; rwa [take_all s k (by omega)] at this)
          go_wp2_with fail
          go_ret
          exact ⟨ret_b (HR.out.trans HN.out).symm, rfl⟩
    · have HR := Lib.hid (nameB_dots h3)
      clear h0 h1
      go_enter Tryz.func197, Tryz.ntmps197
      go_wp2_with fail
      go_ret
      exact ⟨ret_b HR.out.symm, rfl⟩
  · have HR := Lib.hid (nameB_dot h2)
    clear h0 h1
    go_enter Tryz.func197, Tryz.ntmps197
    go_wp2_with fail
    go_ret
    exact ⟨ret_b HR.out.symm, rfl⟩
end Go.Proofs.YtollifnnpihfdaaGreatDoor
