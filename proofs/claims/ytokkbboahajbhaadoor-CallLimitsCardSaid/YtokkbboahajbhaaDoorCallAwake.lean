/- awake, light, agrees of the laws on calls. -/
import Derived.Test.YtokkbboahajbhaaDoorCallRFmt
namespace Go.Proofs.YtokkbboahajbhaaDoor
open Go.RowKit
def aAw : Nat → Int := fun j => if j = 0 then 6 else if j = 1 then 420 else 0
set_option maxRecDepth 100000 in
theorem awake_text : callS 6 aAw [⟨#[47, 97]⟩] [] = ⟨#[111, 112, 101, 110, 32, 54, 32, 52, 50, 48, 32, 34, 47, 97, 34]⟩ := by decide +kernel
theorem awake_err : callE 6 aAw [⟨#[47, 97]⟩] [] = 0 := by decide +kernel
theorem one_str (w : World) (x : ByteArray) (t : TypeId) : StrsAt (w.alloc (.cells #[.string x] t)) (w.heap.size + 1) (some ⟨w.heap.size, 0, none⟩) [x] := fun k hk => by
  have hk : k = 0 := by simp at hk; omega
  subst hk
  exact ⟨_, rfl, by show w.heap.size < _; omega, by show World.cell? _ ⟨w.heap.size, 0, none⟩ = _; rw [(Blk.new w #[.string x] t).cell]; rfl⟩
attribute [local irreducible] callS callE
set_option maxHeartbeats 1000000 in
theorem awake10 (w : World) (hc : Calls10 w) (hT : Tab w) (hW : Pow w) : Calls Tryd.prog 10 #[] w fun e w' => e = .returned (.bool true) ∧ Below w.heap.size w w' := by
  have hal : Below w.heap.size w (w.alloc (.cells #[.string ⟨#[47, 97]⟩] 9)) := (Below.refl _ _).alloc (Nat.le_refl _) _
  have HF := Lib.hid (vformat10 6 aAw (some ⟨w.heap.size, 0, none⟩) 1 none 0 [⟨#[47, 97]⟩] [] (w.alloc (.cells #[.string ⟨#[47, 97]⟩] 9)) (w.heap.size + 1) (by simp) (one_str w _ 9) StrsAt.nil (by simp) (by simp) (by intro s hs; simp at hs; subst hs; decide) (by intro s hs; cases hs) (by intro j _; unfold aAw; split <;> (try split) <;> omega) (hc.below hal (Nat.le_refl _)) (hT.below hal (Nat.le_refl _)) (hW.below hal (Nat.le_refl _)))
  rw [awake_text, awake_err] at HF
  clear hc hT hW hal
  go_enter Tryd.func10, Tryd.ntmps10
  go_wp2_with fail
  refine HF.out.mono ?_
  rintro e w1 ⟨rfl, hb⟩
  go_wp2_with fail
  refine (vcount _).mono ?_
  rintro e w2 ⟨rfl, rfl⟩
  go_wp2_with fail
  go_ret
  exact ⟨rfl, unbox' hb⟩
def lightB (ps gs : List ByteArray) : Bool := decide (ps.length ≤ 6) && decide (gs.length ≤ 8) && !longB ps 300 && !longB gs 300
theorem lightB_inv {ps gs : List ByteArray} (h : lightB ps gs = true) : ps.length ≤ 6 ∧ gs.length ≤ 8 ∧ longB ps 300 = false ∧ longB gs 300 = false := by
  unfold lightB at h; simp at h; exact ⟨h.1.1.1, h.1.1.2, h.1.2, h.2⟩
attribute [local irreducible] lightB longB
set_option maxRecDepth 100000 in
set_option maxHeartbeats 2000000 in
theorem light10 (z : Int) (a : Nat → Int) (P : Option Addr) (cp : Nat) (A : Option Addr) (ca : Nat) (ps gs : List ByteArray) (w : World) (B : Nat) (hB : B ≤ w.heap.size) (hP : StrsAt w B P ps) (hA : StrsAt w B A gs) (hlp : ps.length ≤ maxLen) (hlg : gs.length ≤ maxLen) (hsp : ∀ s ∈ ps, s.size ≤ maxLen) (hsg : ∀ s ∈ gs, s.size ≤ maxLen) :
    Calls Tryd.prog 9 #[callV z a P ps.length cp A gs.length ca] w fun e w' => e = .returned (.bool (lightB ps gs)) ∧ Below w.heap.size w w' := by
  have HP := Lib.hid (hP.keep ((Below.refl w.heap.size w).alloc (Nat.le_refl _) (callO z a P ps.length cp A gs.length ca)) hB)
  have HA := Lib.hid (hA.keep ((Below.refl w.heap.size w).alloc (Nat.le_refl _) (callO z a P ps.length cp A gs.length ca)) hB)
  have HSP := Lib.hid hsp
  have HSG := Lib.hid hsg
  clear hP hA hsp hsg
  unfold maxLen at hlp hlg
  by_cases c1 : ps.length ≤ 6
  · by_cases c2 : gs.length ≤ 8
    · clear hlp hlg
      have HB := Lib.hid ((Below.refl w.heap.size w).alloc (Nat.le_refl _) (callO z a P ps.length cp A gs.length ca))
      have HN := Blk.new w #[.int .i64 z, .int .i64 (a 0), .int .i64 (a 1), .int .i64 (a 2), .int .i64 (a 3), .slice P ps.length cp, .slice A gs.length ca] 25
      go_enter Tryd.func9, Tryd.ntmps9
      go_wp2_with fail
      generalize w.alloc (callO z a P ps.length cp A gs.length ca) = wx at *
      have q5 := HN.cell 5
      have q6 := HN.cell 6
      clear HN
      go_loop [3] (fun i => ∃ k : Nat, k ≤ ps.length ∧ i = .int .i64 k ∧ Hid (∀ j (hj : j < ps.length), j < k → ps[j].size ≤ 300)) (fun i => ps.length - (intOf i).toNat)
      case atStart => exact ⟨0, Nat.zero_le _, rfl, fun j _ hj => by omega⟩
      case round =>
        obtain ⟨k, hk, rfl, hno⟩ := hrel
        by_cases hlt : k < ps.length
        · obtain ⟨ad, e, hadb, hc⟩ := HP.out k hlt
          cases e
          have hsz := HSP.out _ (List.getElem_mem hlt)
          unfold maxLen at hsz
          by_cases ho : 300 < ps[k].size
          · have HL := Lib.hid (show lightB ps gs = false by have := long_at hlt ho; unfold lightB; simp [this])
            generalize ps[k] = s at *
            go_wp2_with fail
            go_ret
            exact ⟨by rw [HL.out]; rfl, HB.out⟩
          · have HN := Lib.hid (show ∀ j (hj : j < ps.length), j < k + 1 → ps[j].size ≤ 300 from fun j hj hjk => by
              by_cases e : j = k
              · subst e; omega
              · exact hno.out j hj (by omega))
            generalize ps[k] = s at *
            go_wp2_with fail
            go_round
            case rel => exact ⟨k + 1, by omega, by go_num, HN.out⟩
            case measure => simp [intOf]; omega
        · have L1 := Lib.hid (long_all fun j hj => hno.out j hj (by omega))
          clear hno
          go_wp2_with fail
          go_loop [4] (fun i => ∃ k : Nat, k ≤ gs.length ∧ i = .int .i64 k ∧ Hid (∀ j (hj : j < gs.length), j < k → gs[j].size ≤ 300)) (fun i => gs.length - (intOf i).toNat)
          case atStart => exact ⟨0, Nat.zero_le _, rfl, fun j _ hj => by omega⟩
          case round =>
            obtain ⟨k, hk, rfl, hno⟩ := hrel
            by_cases hlt : k < gs.length
            · obtain ⟨ad, e, hadb, hc⟩ := HA.out k hlt
              cases e
              have hsz := HSG.out _ (List.getElem_mem hlt)
              unfold maxLen at hsz
              by_cases ho : 300 < gs[k].size
              · have HL := Lib.hid (show lightB ps gs = false by have := long_at hlt ho; unfold lightB; simp [this])
                generalize gs[k] = s at *
                go_wp2_with fail
                go_ret
                exact ⟨by rw [HL.out]; rfl, HB.out⟩
              · have HN := Lib.hid (show ∀ j (hj : j < gs.length), j < k + 1 → gs[j].size ≤ 300 from fun j hj hjk => by
                  by_cases e : j = k
                  · subst e; omega
                  · exact hno.out j hj (by omega))
                generalize gs[k] = s at *
                go_wp2_with fail
                go_round
                case rel => exact ⟨k + 1, by omega, by go_num, HN.out⟩
                case measure => simp [intOf]; omega
            · have L2 := Lib.hid (long_all fun j hj => hno.out j hj (by omega))
              clear hno
              go_wp2_with fail
              go_ret
              exact ⟨by rw [show lightB ps gs = true by unfold lightB; simp [c1, c2, L1.out, L2.out]]; rfl, HB.out⟩
    · have HE := Lib.hid (show lightB ps gs = false by unfold lightB; simp [c2])
      go_enter Tryd.func9, Tryd.ntmps9
      go_wp2_with fail
      go_ret
      exact ⟨by rw [HE.out]; rfl, (Below.refl _ _).alloc (Nat.le_refl _) _⟩
  · have HE := Lib.hid (show lightB ps gs = false by unfold lightB; simp [c1])
    go_enter Tryd.func9, Tryd.ntmps9
    go_wp2_with fail
    go_ret
    exact ⟨by rw [HE.out]; rfl, (Below.refl _ _).alloc (Nat.le_refl _) _⟩
end Go.Proofs.YtokkbboahajbhaaDoor
