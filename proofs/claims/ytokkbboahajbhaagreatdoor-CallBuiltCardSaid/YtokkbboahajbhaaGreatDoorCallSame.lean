/- sameTexts, Same of the reference. -/
import Derived.Test.YtokkbboahajbhaaGreatDoorCallInj
import Derived.Deep.QuietTactic
import Derived.BigQuiet
namespace Go.Proofs.YtokkbboahajbhaaGreatDoor
open Go.RowKit
def sameB (a b : List ByteArray) : Bool := a.map (·.data.toList) == b.map (·.data.toList)
theorem map_data_inj : ∀ {a b : List ByteArray}, a.map (·.data.toList) = b.map (·.data.toList) → a = b
  | [], [], _ => rfl
  | [], _ :: _, h => by simp at h
  | _ :: _, [], h => by simp at h
  | x :: a, y :: b, h => by
    simp only [List.map_cons, List.cons.injEq] at h
    rw [bytes_ext h.1, map_data_inj h.2]
theorem sameB_iff {a b : List ByteArray} : sameB a b = true ↔ a = b := by
  unfold sameB
  rw [beq_iff_eq]
  exact ⟨map_data_inj, fun h => by rw [h]⟩
theorem sameB_len {a b : List ByteArray} (h : a.length ≠ b.length) : sameB a b = false := by
  rw [← Bool.not_eq_true, sameB_iff]; exact fun e => h (by rw [e])
theorem sameB_at {a b : List ByteArray} {k : Nat} (h1 : k < a.length) (h2 : k < b.length) (h : a[k] ≠ b[k]) : sameB a b = false := by
  rw [← Bool.not_eq_true, sameB_iff]; intro e; subst e; exact h rfl
theorem sameB_all {a b : List ByteArray} (hl : a.length = b.length) (h : ∀ k (h1 : k < a.length) (h2 : k < b.length), a[k] = b[k]) : sameB a b = true := by
  rw [sameB_iff]; exact List.ext_getElem hl fun k h1 h2 => h k h1 h2
set_option maxHeartbeats 1000000 in
theorem rsame (w : World) (B : Nat) (A A' : Option Addr) (ss tt : List ByteArray) (c c' : Nat) (hB : B ≤ w.heap.size) (hz : StrsAt w B A ss) (hz' : StrsAt w B A' tt) (hl : ss.length ≤ 1000) (hl' : tt.length ≤ 1000) :
    Calls Tryz.prog 44 #[.slice A ss.length c, .slice A' tt.length c'] w fun e w' => e = .returned (.bool (sameB ss tt)) ∧ Below w.heap.size w w' := by
  have HZ := Lib.hid hz
  have HZ' := Lib.hid hz'
  clear hz hz'
  by_cases hlen : ss.length = tt.length
  · have HL := Lib.hid hlen
    obtain ⟨n, hn⟩ : ∃ n, n = tt.length := ⟨_, rfl⟩
    have HN := Lib.hid hn
    have HS := Lib.hid (show ss.length = n by omega)
    have hn1 : n ≤ 1000 := by omega
    rw [hlen, ← hn]
    clear hlen hn hl hl'
    go_enter Tryz.func44, Tryz.ntmps44
    go_wp2_with fail
    go_loopw [5] (fun i wr => ∃ k : Nat, k ≤ n ∧ i = .int .i64 k ∧ Hid (∀ j (h1 : j < ss.length) (h2 : j < tt.length), j < k → ss[j] = tt[j]) ∧ Below w.heap.size w wr) (fun i _ => n - (intOf i).toNat)
    case atStart => exact ⟨0, Nat.zero_le _, rfl, fun j _ _ hj => by omega, Below.refl _ _⟩
    case round =>
      obtain ⟨k, hk, rfl, hno, hb⟩ := hrel
      by_cases hlt : k < n
      · have hk1 : k < ss.length := by have := HS.out; omega
        have hk2 : k < tt.length := by have := HN.out; omega
        obtain ⟨ad, e, hadb, hc⟩ := HZ.out.keep hb hB k hk1
        cases e
        obtain ⟨ad', e, hadb', hc'⟩ := HZ'.out.keep hb hB k hk2
        cases e
        by_cases he : ss[k] = tt[k]
        · have HM := Lib.hid (show ∀ j (h1 : j < ss.length) (h2 : j < tt.length), j < k + 1 → ss[j] = tt[j] from fun j h1 h2 hj => by
            by_cases e : j = k
            · subst e; exact he
            · exact hno.out j h1 h2 (by omega))
          rw [he] at hc
          clear he hno
          generalize tt[k] = s at *
          go_wp2_with fail
          go_quiet (fail)
          go_wp2_with fail
          go_roundw
          case rel => exact ⟨k + 1, by omega, by go_num, HM.out, below_drewN hb _⟩
          case measure => simp [intOf]; omega
        · have HF := Lib.hid (sameB_at hk1 hk2 he)
          have hs := str_ne he
          clear he hno
          generalize ss[k] = s at *
          generalize tt[k] = t at *
          go_wp2_with fail
          go_quiet (fail)
          go_wp2_with fail
          go_ret
          exact ⟨by rw [HF.out]; rfl, below_drewN hb _⟩
      · have HF := Lib.hid (sameB_all (a := ss) (b := tt) HL.out (fun j h1 h2 => hno.out j h1 h2 (by have := HN.out; have := HS.out; omega)))
        clear hno
        go_wp2_with fail
        go_ret
        exact ⟨by rw [HF.out]; rfl, hb⟩
  · have hne : ((ss.length : Int) != (tt.length : Int)) = true := by rw [bne_iff_ne]; omega
    have HF := Lib.hid (sameB_len hlen)
    clear hlen
    go_enter Tryz.func44, Tryz.ntmps44
    go_wp2_with fail
    go_ret
    exact ⟨by rw [HF.out]; rfl, Below.refl _ _⟩
end Go.Proofs.YtokkbboahajbhaaGreatDoor
