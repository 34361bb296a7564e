/- Texts of one proof, laid together. -/
import Derived.Test.YtpldopoeopjcoaaGreatDoorK09
import Derived.Test.YtpldopoeopjcoaaGreatDoorK06
import Derived.Test.YtpldopoeopjcoaaGreatDoorK07
import Derived.Deep.RegionLaw
import Derived.Maps.AppendAt
/- cut of package expression's parser: signs; all. -/
namespace Go.Proofs.YtpldopoeopjcoaaGreatDoor
open Go.RowKit
abbrev sgA : Array Value := #[.string ⟨#[33, 61]⟩, .string ⟨#[60, 61]⟩, .string ⟨#[62, 61]⟩, .string ⟨#[61]⟩, .string ⟨#[60]⟩, .string ⟨#[62]⟩, .string ⟨#[126]⟩, .string ⟨#[40]⟩, .string ⟨#[41]⟩]
theorem sgL_len : sgL.length = 9 := rfl
theorem sgA_get (k : Nat) (hk : k < 9) : sgA[k]? = some (.string (sgL[k]'(by rw [sgL_len]; exact hk))) := by
  have : k = 0 ∨ k = 1 ∨ k = 2 ∨ k = 3 ∨ k = 4 ∨ k = 5 ∨ k = 6 ∨ k = 7 ∨ k = 8 := by omega
  rcases this with rfl | rfl | rfl | rfl | rfl | rfl | rfl | rfl | rfl <;> rfl
theorem signAt_cons (x : ByteArray) (r : List ByteArray) (l : List UInt8) : signAt (x :: r) l = if Lib.hasPrefix l x.data.toList = true then some x else signAt r l := rfl
theorem signAt_nil (l : List UInt8) : signAt [] l = none := rfl
theorem sgL_drop (k : Nat) (hk : k < 9) : sgL.drop k = sgL[k]'(by rw [sgL_len]; exact hk) :: sgL.drop (k + 1) := List.drop_eq_getElem_cons (by rw [sgL_len]; exact hk)
theorem sgL_drop9 : sgL.drop 9 = [] := rfl
attribute [local irreducible] cutL runL nma nmd dig38 inTx signAt sgL
set_option maxRecDepth 100000 in
set_option maxHeartbeats 8000000 in
theorem vcut_sign (s : ByteArray) (h0 : 0 < s.size) (hs : s.size ≤ 1000000) (w : World) (hc : nma s[0] = false) (hd : (dig38 s[0] || decide (s[0].toNat = 45)) = false) (hq : ¬ s[0].toNat = 34) :
    Calls Tryz.prog 65 #[.string s] w (CPost (cutL s.data.toList) w) := by
  have HL := Lib.hid (vletter s[0])
  have HD := Lib.hid (vdigit38 s[0])
  have HC := Lib.hid (show cutL s.data.toList = (signAt sgL s.data.toList).map fun x => (⟨4, x, 0⟩, x.size) by
    have e := s_cons s h0
    generalize s.data.toList = l at *
    generalize l.drop 1 = r at *
    rw [e, cutL_cons, if_neg (by rw [hc]; exact Bool.false_ne_true), if_neg (by rw [hd]; exact Bool.false_ne_true), if_neg hq])
  have R0 := Lib.hid ((Blk.new w tkZ 100).alloc (.cells sgA 9))
  have A0 := Lib.hid (show Blk ((w.alloc (.cells tkZ 100)).alloc (.cells sgA 9)) (w.heap.size + 1) 9 sgA by
    have := Blk.new (w.alloc (.cells tkZ 100)) sgA 9
    simpa using this)
  have B0 := Lib.hid (((Below.refl w.heap.size w).alloc (Nat.le_refl _) (.cells tkZ 100)).alloc (by simp) (.cells sgA 9))
  have hz : (0 : Int) < (s.size : Int) := by omega
  have q2 : ((s[0].toNat : Int) == 45) = false := by
    rw [Bool.or_eq_false_iff] at hd
    have := hd.2
    simp at this
    rw [beq_eq_false_iff_ne]; omega
  have q3 : ((s[0].toNat : Int) == 34) = false := by rw [beq_eq_false_iff_ne]; omega
  have hd2 : dig38 s[0] = false := by
    rw [Bool.or_eq_false_iff] at hd
    exact hd.1
  clear hd hs hq
  go_enter Tryz.func65, Tryz.ntmps65
  go_wp2_with fail
  refine (HL.out _).mono ?_
  rintro e w1 ⟨rfl, rfl⟩
  rw [hc]
  go_wp2_with fail
  refine (HD.out _).mono ?_
  rintro e w1 ⟨rfl, rfl⟩
  rw [hd2]
  go_wp2_with fail
  generalize (w.alloc (.cells tkZ 100)).alloc (.cells sgA 9) = W at *
  go_loopw [83] (fun i wr => ∃ k : Nat, k ≤ 9 ∧ i = .int .i64 (k : Int) ∧ wr = W ∧ Hid (signAt sgL s.data.toList = signAt (sgL.drop k) s.data.toList)) (fun i _ => 9 - (intOf i).toNat)
  case atStart => exact ⟨0, by omega, rfl, rfl, Lib.hid rfl⟩
  case round =>
    obtain ⟨k, hk, rfl, rfl, hr⟩ := hrel
    by_cases hlt : k < 9
    · have hlt1 : (k : Int) < 9 := by omega
      have HX := Lib.hid (show signAt (sgL.drop k) s.data.toList = _ by rw [sgL_drop k hlt, signAt_cons])
      have hcell : wr.cell? ⟨w.heap.size + 1, k, none⟩ = some (.string (sgL[k]'(by rw [sgL_len]; exact hlt))) := (A0.out.cell k).trans (sgA_get k hlt)
      have HP := Lib.hid (Tryz.strings_HasPrefix s (sgL[k]'(by rw [sgL_len]; exact hlt)))
      generalize sgL[k]'(by rw [sgL_len]; exact hlt) = x at *
      go_wp2_with fail
      refine (HP.out _).mono ?_
      rintro e w2 ⟨rfl, rfl⟩
      cases hb : Lib.hasPrefix s.data.toList x.data.toList
      · have HR := Lib.hid (show signAt sgL s.data.toList = signAt (sgL.drop (k + 1)) s.data.toList by rw [hr.out, HX.out, hb, if_neg Bool.false_ne_true])
        go_wp2_with fail
        go_roundw
        case rel => exact ⟨k + 1, by omega, by go_num, trivial, HR⟩
        case measure => simp [intOf]; omega
      · have HR := Lib.hid (show cutL s.data.toList = some (⟨4, x, 0⟩, x.size) by rw [HC.out, hr.out, HX.out, hb, if_pos rfl]; rfl)
        go_wp2_with ((with_reducible refine store_blk ?_ 100 (.tmp 2) (.tmp 91) ?_ R0.out (tkC ⟨4, x, 0⟩) ?_ ?_ ?_ ?_ ?_ ?_); (iterate 4 rfl); (exact tk_sz ⟨4, x, 0⟩); rfl; (simp [Value.oneCell']))
        refine bodyPost_ret (tk_ret2 (fn := Tryz.f65) rfl _ _ w.heap.size ⟨4, x, 0⟩ rfl (Blk.row R0.out _)) rfl ?_
        rw [HR.out]
        exact ⟨rfl, below_row B0.out (Nat.le_refl _) _⟩
    · have hlt1 : ¬ (k : Int) < 9 := by omega
      have h9 : k = 9 := by omega
      have HR := Lib.hid (show cutL s.data.toList = none by rw [HC.out, hr.out, h9, sgL_drop9, signAt_nil]; rfl)
      clear h9
      go_wp2_with fail
      refine (vfail _).mono ?_
      rintro e w6 ⟨rfl, rfl⟩
      have HP : ∀ W, Below w.heap.size w W → CPost (cutL s.data.toList) w (.panicked [{ v := feV, recovered := false }]) W := fun W h => by
        rw [HR.out]
        exact ⟨rfl, h⟩
      exact ⟨rfl, HP _ B0.out⟩
theorem vcut (s : ByteArray) (h0 : 0 < s.size) (hs : s.size ≤ 1000000) (w : World) (hE : Env w) :
    Calls Tryz.prog 65 #[.string s] w (CPost (cutL s.data.toList) w) := by
  cases hc : nma s[0]
  · cases hd : (dig38 s[0] || decide (s[0].toNat = 45))
    · by_cases hq : s[0].toNat = 34
      · exact vcut_text s h0 hs w hc hd hq
      · exact vcut_sign s h0 hs w hc hd hq
    · exact vcut_num s h0 hs w hE hc hd
  · exact vcut_word s h0 hs w hc
end Go.Proofs.YtpldopoeopjcoaaGreatDoor
/- scan of package expression's parser. -/
namespace Go.Proofs.YtpldopoeopjcoaaGreatDoor
open Go.RowKit
def SPost (o : Option (List Tk)) (w : World) (e : Ending) (w' : World) : Prop :=
  match o with
  | some ts => ∃ (A : Option Addr) (c : Nat), e = .returned (.slice A ts.length c) ∧ OwnE ETk w' w.heap.size (.slice A ts.length c) ts ∧ TOk ts ∧ c ≤ maxLen ∧ Below w.heap.size w w'
  | none => e = .panicked [{ v := feV, recovered := false }] ∧ Below w.heap.size w w'
def strN : Value → Nat
  | .string s => s.size
  | _ => 0
theorem vtrim (s : ByteArray) (w : World) : Calls Tryz.prog 64 #[.string s, .string ⟨#[32]⟩] w fun e w' => e = .returned (.string ⟨(Lib.trimLeftB s.data.toList 32).toArray⟩) ∧ w' = w := Tryz.strings_TrimLeft_one s 32 (by decide) w
theorem trim_list (s : ByteArray) : (⟨(Lib.trimLeftB s.data.toList 32).toArray⟩ : ByteArray).data.toList = Lib.trimLeftB s.data.toList 32 := by simp
theorem trim_size (s : ByteArray) : (⟨(Lib.trimLeftB s.data.toList 32).toArray⟩ : ByteArray).size ≤ s.size := by
  have h := trim_le s.data.toList 32
  show (List.toArray _).size ≤ _
  rw [List.size_toArray, ← bszE]
  exact h
theorem own_cap {α : Type} {E : El α} {w : World} {base n c : Nat} {A : Option Addr} {L : List α} (h : OwnE E w base (.slice A n c) L) : c ≤ maxLen := by
  rcases h.2 with ⟨e, _⟩ | ⟨g, cap, cur, e, _, _, _, h2, _⟩
  · injection e with _ _ e
    rw [e]; exact Nat.zero_le _
  · injection e with _ _ e
    rw [e]; exact h2
structure ScS (w wr : World) (v : Value) (ts : List Tk) : Prop where
  low : Below w.heap.size w wr
  own : OwnE ETk wr w.heap.size v ts
theorem ScS.below {w wr w' : World} {v : Value} {ts : List Tk} (h : ScS w wr v ts) (hb : Below wr.heap.size wr w') : ScS w w' v ts := ⟨below_then h.low hb, h.own.below hb⟩
theorem ScS.alloc {w wr : World} {v : Value} {ts : List Tk} (h : ScS w wr v ts) (o : Obj) : ScS w (wr.alloc o) v ts := h.below ((Below.refl _ _).alloc (Nat.le_refl _) o)
theorem ScS.app {w wr w' : World} {v v' : Value} {ts ts' : List Tk} (h : ScS w wr v ts) (hg : wr.grownBy w' v.ownBlock) (ho : OwnE ETk w' w.heap.size v' ts') : ScS w w' v' ts' :=
  ⟨h.low.grown hg h.low.size (fun k e => h.own.ge k e), ho⟩
attribute [local irreducible] cutL scanR Lib.trimLeftB
set_option maxRecDepth 100000 in
set_option maxHeartbeats 8000000 in
theorem vscan (s : ByteArray) (hs : s.size ≤ 1000) (w : World) (hE : Env w) :
    Calls Tryz.prog 43 #[.string s] w (SPost (scanE s.data.toList) w) := by
  have HE := Lib.hid (fun (W : World) (h : Below w.heap.size w W) => hE.below h)
  obtain ⟨S1, hS1⟩ : ∃ S1 : ByteArray, S1 = ⟨(Lib.trimLeftB s.data.toList 32).toArray⟩ := ⟨_, rfl⟩
  have HT := Lib.hid (show Calls Tryz.prog 64 #[.string s, .string ⟨#[32]⟩] w fun e w' => e = .returned (.string S1) ∧ w' = w by rw [hS1]; exact vtrim s w)
  have H1 := Lib.hid (show S1.size ≤ 1000 by rw [hS1]; have := trim_size s; omega)
  have HS := Lib.hid (show scanE s.data.toList = (scanR S1.data.toList).map ([] ++ ·) by
    rw [scanE_eq, hS1, trim_list]
    cases scanR (Lib.trimLeftB s.data.toList 32) <;> rfl)
  clear hE hs hS1
  go_enter Tryz.func43, Tryz.ntmps43
  go_wp2_with fail
  refine HT.out.mono ?_
  rintro e w1 ⟨rfl, rfl⟩
  go_wp2_with fail
  go_loopw [0, 3] (fun v0 v wr => ∃ (S : ByteArray) (ts : List Tk), v0 = .string S ∧ ScS w1 wr v ts ∧ Hid (S.size + ts.length ≤ 1000) ∧ Hid (scanE s.data.toList = (scanR S.data.toList).map (ts ++ ·)) ∧ Hid (∀ t ∈ ts, t.tx.size ≤ 1000)) (fun v0 _ _ => strN v0)
  case atStart => exact ⟨S1, [], rfl, ⟨Below.refl _ _, OwnE.nil _ _⟩, Lib.hid (by have := H1.out; simpa using this), HS, Lib.hid (fun t h => by cases h)⟩
  case round =>
    obtain ⟨S, ts, rfl, hK, hl, hR, hX⟩ := hrel
    generalize u3 = v at *
    have K := Lib.hid hK
    clear hK HT H1 HS
    cases he : S.toList.isEmpty
    case true =>
      obtain ⟨A, c, rfl, hat⟩ := K.out.own.at
      have HF := Lib.hid (show scanE s.data.toList = some ts by
        have : S.data.toList = [] := by rw [← ByteArray.toList_eq]; exact List.isEmpty_iff.1 he
        rw [hR.out, this, scanR_nil]
        simp)
      clear hat
      go_wp2_with fail
      go_ret
      rw [HF.out]
      exact ⟨A, c, rfl, K.out.own, ⟨by have := hl.out; omega, fun t h => by have := hX.out t h; omega⟩, own_cap K.out.own, K.out.low⟩
    case false =>
      have hS0 : 0 < S.size := by
        rcases Nat.eq_zero_or_pos S.size with h | h
        · have : S.data.toList = [] := List.eq_nil_of_length_eq_zero (by rw [bszE]; exact h)
          rw [ByteArray.toList_eq, this] at he
          cases he
        · exact h
      have HC := Lib.hid (vcut S hS0 (by have := hl.out; omega) _ (HE.out _ K.out.low))
      go_wp2_with fail
      refine HC.out.mono ?_
      intro e w2 hp
      cases ho : cutL S.data.toList with
      | none =>
        rw [ho] at hp
        obtain ⟨rfl, hb⟩ := hp
        have HP : SPost (scanE s.data.toList) w1 (.panicked [{ v := feV, recovered := false }]) w2 := by
          rw [hR.out, scanR_none (fun h => by rw [ByteArray.toList_eq, h] at he; cases he) ho]
          exact ⟨rfl, below_then K.out.low hb⟩
        exact ⟨rfl, HP⟩
      | some p =>
      obtain ⟨t, k⟩ := p
      rw [ho] at hp
      obtain ⟨rfl, hb⟩ := hp
      have HO := Lib.hid (cut_ok ho)
      have HR2 := Lib.hid (show scanE s.data.toList = (scanR (Lib.trimLeftB (S.data.toList.drop k) 32)).map ((ts ++ [t]) ++ ·) by
        rw [hR.out, scanR_some ho, Option.map_map]
        congr 1
        funext x
        simp)
      have K1 := Lib.hid (((K.out.below hb).alloc (.cells (tkC t) 100)).alloc (.cells (tkC t) 100))
      have X := Lib.hid (Blk.new w2 (tkC t) 100)
      have RW := Lib.hid (show AtE ETk ((w2.alloc (.cells (tkC t) 100)).alloc (.cells (tkC t) 100)) (w2.heap.size + 1 + 1) (some ⟨w2.heap.size + 1, 0, none⟩) [t] by
        have h := row_newE ETk (w2.alloc (.cells (tkC t) 100)) (tkC t) 100 t rfl (Nat.lt_succ_self (w2.alloc (.cells (tkC t) 100)).heap.size)
        have e : (w2.alloc (.cells (tkC t) 100)).heap.size = w2.heap.size + 1 := by simp
        rw [e] at h
        exact h)
      have hk1 : k ≤ S.size := by have := HO.out.2.1; rwa [bszE] at this
      have hk2 : (k : Int) ≤ (S.size : Int) := by omega
      obtain ⟨S2, hS2⟩ : ∃ S2 : ByteArray, S2 = ⟨(Lib.trimLeftB (S.extract k S.size).data.toList 32).toArray⟩ := ⟨_, rfl⟩
      have HT := Lib.hid (show ∀ W, Calls Tryz.prog 64 #[.string (S.extract k S.size), .string ⟨#[32]⟩] W fun e w' => e = .returned (.string S2) ∧ w' = W by rw [hS2]; exact fun W => vtrim _ W)
      have HZ := Lib.hid (show S2.size + 1 ≤ S.size by
        rw [hS2]
        have := trim_size (S.extract k S.size)
        rw [ByteArray.size_extract] at this
        have := HO.out.1
        omega)
      have HR3 := Lib.hid (show scanE s.data.toList = (scanR S2.data.toList).map ((ts ++ [t]) ++ ·) by rw [HR2.out, hS2, trim_list, extE1])
      have HX2 := Lib.hid (show ∀ t' ∈ ts ++ [t], t'.tx.size ≤ 1000 from fun t' h => by
        rcases List.mem_append.1 h with h | h
        · exact hX.out t' h
        · rw [List.mem_singleton.1 h]
          have := HO.out.2.2
          rw [bszE] at this
          have := hl.out
          omega)
      have hbase : w1.heap.size ≤ ((w2.alloc (.cells (tkC t) 100)).alloc (.cells (tkC t) 100)).heap.size := K1.out.low.size
      have HLL := Lib.hid (show ts.length + 1 ≤ 1000000 by have := hl.out; omega)
      clear hb ho HR2 hS2 HC hR hX K
      go_wp2_with (first | ((with_reducible refine load_blk ?_ 100 (.tmp 4) ?_ X.out ?_ _ Tryz.underlying100 ?_ ?_ ?_); (iterate 4 rfl); exact tk_sz _) | (refine wpList_append_el ETk rfl (.tmp 15) (.tmp 17) rfl w1.heap.size v ts rfl K1.out.own (w2.heap.size + 1 + 1) (some ⟨w2.heap.size + 1, 0, none⟩) 1 1 [t] rfl rfl RW.out (by rw [List.length_singleton]; exact HLL.out) hbase ?_; intro v6 w6 ho6 hg6 hat6))
      have K2 := Lib.hid (K1.out.app hg6 ho6)
      clear ho6 hg6 hat6 K1 X RW hbase
      go_wp2_with fail
      refine (HT.out _).mono ?_
      rintro e w7 ⟨rfl, rfl⟩
      go_wp2_with fail
      go_roundw
      case rel => exact ⟨S2, ts ++ [t], rfl, K2.out, Lib.hid (by have := hl.out; have := HZ.out; simp; omega), HR3, HX2⟩
      case measure => have := HZ.out; show S2.size < S.size; omega
end Go.Proofs.YtpldopoeopjcoaaGreatDoor
/- word of the parser of package expression: any tokens. -/
namespace Go.Proofs.YtpldopoeopjcoaaGreatDoor
open Go.RowKit
def WPost (o : Option (ByteArray × List Tk)) (w : World) (g : Nat) (e : Ending) (w' : World) : Prop :=
  match o with
  | some (s, r) => e = .returned (.string s) ∧ TkO w' g r ∧ w.grownBy w' (some g) ∧ s.size ≤ 1000000
  | none => e = .panicked [{ v := feV, recovered := false }] ∧ w.grownBy w' (some g)
theorem word_no {ts : List Tk} (t : Tk) (r : List Tk) (h : ts = t :: r) (hn : t.kd ≠ 1 ∨ keyB t.tx = true) : wordE ts = none := by
  subst h
  rw [wordE_cons, if_neg]
  rintro ⟨a, b⟩
  rcases hn with hn | hn
  · exact hn a
  · rw [hn] at b; cases b
theorem word_yes {t : Tk} {r : List Tk} (hk : t.kd = 1) (hy : keyB t.tx = false) : wordE (t :: r) = some (t.tx, r) := by
  rw [wordE_cons, if_pos ⟨hk, hy⟩]
set_option maxHeartbeats 4000000 in
theorem vword_no (t : Tk) (w w1 : World) (g : Nat) (ts : List Tk)
    (H : Calls Tryz.prog 101 #[.pointer (some ⟨g, 0, none⟩)] w fun e w' => e = .returned (.agg (tkC t)) ∧ TkS w' g ts ∧ w.grownBy w' (some g)) (hn : t.kd ≠ 1 ∨ keyB t.tx = true) (_hw : w1 = w) :
    Calls Tryz.prog 100 #[.pointer (some ⟨g, 0, none⟩)] w fun e w' => e = .panicked [{ v := feV, recovered := false }] ∧ w.grownBy w' (some g) := by
  have H := Lib.hid H
  have HK := Lib.hid (fun W : World => vkey38 t.tx W)
  clear _hw
  cases b1 : (t.kd == 1)
  · have b1' : (t.kd != 1) = true := by rw [bne, b1]; rfl
    clear hn
    go_enter Tryz.func100, Tryz.ntmps100
    go_wp2_with fail
    refine H.out.mono ?_
    rintro e w1 ⟨rfl, ht, hg⟩
    have HG := Lib.hid (only_alloc hg (.cells (tkC t) 100))
    have X := Lib.hid (Blk.new w1 (tkC t) 100)
    have c0 := X.out.cell 0
    have c1 := X.out.cell 1
    clear ht hg
    go_wp2_with fail
    refine (vfail _).mono ?_
    rintro e w2 ⟨rfl, rfl⟩
    exact ⟨rfl, rfl, HG.out⟩
  · have b1' : (t.kd != 1) = false := by rw [bne, b1]; rfl
    have HY := Lib.hid (show keyB t.tx = true by
      rcases hn with hn | hn
      · exact absurd (eq_of_beq b1) hn
      · exact hn)
    clear hn
    go_enter Tryz.func100, Tryz.ntmps100
    go_wp2_with fail
    refine H.out.mono ?_
    rintro e w1 ⟨rfl, ht, hg⟩
    have HG := Lib.hid (only_alloc hg (.cells (tkC t) 100))
    have X := Lib.hid (Blk.new w1 (tkC t) 100)
    have c0 := X.out.cell 0
    have c1 := X.out.cell 1
    clear ht hg
    go_wp2_with fail
    refine (HK.out _).mono ?_
    rintro e w2 ⟨rfl, rfl⟩
    rw [HY.out]
    go_wp2_with fail
    refine (vfail _).mono ?_
    rintro e w2 ⟨rfl, rfl⟩
    exact ⟨rfl, rfl, HG.out⟩
theorem vwordE (ts : List Tk) (w : World) (g : Nat) (h0 : TkO w g ts) : Calls Tryz.prog 100 #[.pointer (some ⟨g, 0, none⟩)] w (WPost (wordE ts) w g) := by
  have h := h0.1
  cases ts with
  | nil =>
    exact vword_no zeroTk w w g [] (vnext_nil w g h) (.inl (by decide)) rfl
  | cons t r =>
    by_cases hk : t.kd = 1
    · cases hy : keyB t.tx
      · rw [word_yes hk hy]
        exact (vword_ok t r hk hy w g h).mono (fun _ _ q => ⟨q.1, h0.step q.2.1 h0.toks.tail q.2.2, q.2.2, h0.toks.2 t (List.mem_cons_self ..)⟩)
      · rw [word_no t r rfl (.inr hy)]
        exact vword_no t w w g r (vnext_cons t r w g h) (.inr hy) rfl
    · rw [word_no t r rfl (.inl hk)]
      exact vword_no t w w g r (vnext_cons t r w g h) (.inl hk) rfl
end Go.Proofs.YtpldopoeopjcoaaGreatDoor
/- The list of package expression's parser: what its loop keeps. -/
namespace Go.Proofs.YtpldopoeopjcoaaGreatDoor
open Go.RowKit
abbrev xZ : Array Value := #[.int .i64 0, .int .i64 0, .int .i64 0, .int .i64 0, .string ⟨#[]⟩, .string ⟨#[]⟩, .slice none 0 0]
/-- Blocks of the call's own but the row's. -/
def Fr2 (n : Nat) (wr : World) (v : Value) (i : Nat) : Prop := n + 1 ≤ i ∧ i < wr.heap.size ∧ v.ownBlock ≠ some i
structure LiS (w wr : World) (g : Nat) (v : Value) (l : List Ex) (ms : List Xe) (ts : List Tk) : Prop where
  res : Blk wr w.heap.size 25 xZ
  own : OwnE EX wr (w.heap.size + 1) v ms
  ln : ms.length = l.length
  ps : ∀ k (h1 : k < l.length) (h2 : k < ms.length), ExA wr (Fr2 w.heap.size wr v) (l[k]) (ms[k])
  tk : TkO wr g ts
  only : w.grownBy wr (some g)
  hg : g < w.heap.size
section
variable {w wr w' w2 w4 : World} {g : Nat} {v v' : Value} {l : List Ex} {ms : List Xe} {ts ts' : List Tk} {x : Ex} {m : Xe}
theorem LiS.step (h : LiS w wr g v l ms ts) (hg : wr.grownBy w' (some g)) (ht : TkO w' g ts') : LiS w w' g v l ms ts' := by
  have hw := h.hg
  refine ⟨Blk.grown h.res hg (fun e => by injection e with e; omega), h.own.far hg (fun k hk e => by injection e with e; have := h.own.ge k hk; omega), h.ln, fun k h1 h2 => (h.ps k h1 h2).keep (fun i hi => ?_) (fun i hi => ⟨hi.1, Nat.lt_of_lt_of_le hi.2.1 hg.size, hi.2.2⟩), ht, only_trans h.only hg, h.hg⟩
  exact hg.block i hi.2.1 (fun e => by injection e with e; have := hi.1; omega)
theorem LiS.below (h : LiS w wr g v l ms ts) (hb : Below wr.heap.size wr w') : LiS w w' g v l ms ts :=
  h.step ⟨hb.os, hb.tape, hb.output, hb.size, fun i hi _ => hb.block i hi⟩ (h.tk.below hb)
theorem LiS.alloc (h : LiS w wr g v l ms ts) (o : Obj) : LiS w (wr.alloc o) g v l ms ts := h.below ((Below.refl _ _).alloc (Nat.le_refl _) o)
/-- The first element. -/
theorem LiS.first (hg : g < w.heap.size) (ho : w.grownBy wr (some g)) (hr : Blk wr w.heap.size 25 xZ) (hx : ExA wr (fun i => w.heap.size + 1 ≤ i ∧ i < wr.heap.size) x m) (ht : TkO wr g ts) :
    LiS w (wr.alloc (.cells (xC m) 25)) g (.slice (some ⟨wr.heap.size, 0, none⟩) 1 1) [x] [m] ts := by
  have hs := hr.lt
  refine ⟨hr.alloc _, OwnE.made EX wr (xC m) [m] rfl (by omega) (by show 1 ≤ 1000; omega) rfl, rfl, fun k h1 h2 => ?_, ht.alloc _, only_alloc ho _, hg⟩
  have hk : k = 0 := by simpa using h1
  subst hk
  refine ExA.keep (w := wr) hx (fun i hi => ?_) (fun i hi => ⟨hi.1, by have := hi.2; simp; omega, fun e => ?_⟩)
  · exact ((Below.refl wr.heap.size wr).alloc (Nat.le_refl _) _).block i hi.2
  · have e2 : wr.heap.size = i := Option.some.inj e
    have := hi.2
    omega
/-- One more element. -/
theorem LiS.app (h : LiS w w2 g v l ms ts) (hx : ExA w2 (Fr2 w.heap.size w2 v) x m) (ho : OwnE EX w4 (w.heap.size + 1) v' (ms ++ [m])) (hg : w2.grownBy w4 v.ownBlock) (hat : v'.ownBlock = v.ownBlock ∨ v'.ownBlock = some w2.heap.size) : LiS w w4 g v' (l ++ [x]) (ms ++ [m]) ts := by
  have hw := h.hg
  have hr : ∀ k, v.ownBlock = some k → w.heap.size < k := fun k hk => by have := h.own.ge k hk; omega
  have hk : ∀ (y : Ex) (q : Xe), ExA w2 (Fr2 w.heap.size w2 v) y q → ExA w4 (Fr2 w.heap.size w4 v') y q := fun y q hy => hy.keep (fun i hi => hg.block i hi.2.1 (fun e => hi.2.2 e.symm)) (fun i hi => ⟨hi.1, Nat.lt_of_lt_of_le hi.2.1 hg.size, by
    rcases hat with e | e
    · rw [e]; exact hi.2.2
    · rw [e]; intro e2; injection e2 with e2; have := hi.2.1; omega⟩)
  refine ⟨Blk.grown h.res hg (fun e => by have := hr _ e; omega), ho, by simp [h.ln], fun k h1 h2 => ?_, h.tk.far hg (fun k e => by have := hr k e; omega), only_far h.only hg (fun k e => Nat.le_of_lt (hr k e)), h.hg⟩
  by_cases hkl : k < l.length
  · have e1 : (l ++ [x])[k]'h1 = l[k] := List.getElem_append_left hkl
    have e2 : (ms ++ [m])[k]'h2 = ms[k]'(by rw [h.ln]; exact hkl) := List.getElem_append_left (by rw [h.ln]; exact hkl)
    rw [e1, e2]
    exact hk _ _ (h.ps k hkl (by rw [h.ln]; exact hkl))
  · have hke : k = l.length := by simp at h1; omega
    subst hke
    have e1 : (l ++ [x])[l.length]'h1 = x := by simp
    have e2 : (ms ++ [m])[l.length]'h2 = m := by simp [← h.ln]
    rw [e1, e2]
    exact hk _ _ hx
end
def conE (op : Int) (l : List Ex) : Option (List Ex × List Tk) → Option (Ex × List Tk)
  | none => none
  | some (l', r) => joinE op (l ++ l') r
section
variable {f : List Tk → Option (Ex × List Tk)} {op : Int} {wd : ByteArray} {ts r r2 : List Tk} {x x2 : Ex} {l : List Ex}
theorem list_none (h : f ts = none) : listE f op wd ts = none := by unfold listE; rw [h]
theorem list_start (h : f ts = some (x, r)) : listE f op wd ts = conE op [x] (moreE f wd r.length r) := by
  unfold listE; rw [h]
  simp only
  cases moreE f wd r.length r <;> rfl
theorem con_stop (hf : ∀ ts, Less (f ts) ts.length) (h : hitB r 1 wd = false) : conE op l (moreE f wd r.length r) = joinE op l r := by
  rw [more_step hf, h]
  simp [conE]
theorem con_none (hf : ∀ ts, Less (f ts) ts.length) (h : hitB r 1 wd = true) (hn : f r.tail = none) : conE op l (moreE f wd r.length r) = none := by
  rw [more_step hf, h, hn]
  rfl
theorem con_more (hf : ∀ ts, Less (f ts) ts.length) (h : hitB r 1 wd = true) (hn : f r.tail = some (x2, r2)) : conE op l (moreE f wd r.length r) = conE op (l ++ [x2]) (moreE f wd r2.length r2) := by
  rw [more_step hf, h, hn]
  simp only [if_true]
  cases moreE f wd r2.length r2 with
  | none => rfl
  | some p => simp [conE]
end
theorem x_ret {fn : Func} {p : Tmp} (h : fn.results = #[.cell p 25]) (tmps : Array Value) (w : World) (g : Nat) (m : Xe) (hp : tmps.getD p undef = .pointer (some ⟨g, 0, none⟩)) (hg : Blk w g 25 (xC m)) :
    (results fn tmps).run Tryz.prog w = .ok (.agg (xC m)) w :=
  results_cell_row h tmps w g _ (xC m) (0, 0) _ hp hg Tryz.underlying25 rfl (x_sz m)
theorem AtE.toS {w : World} {B : Nat} {A : Option Addr} {ms : List Xe} {S : Nat → Prop} (h : AtE EX w B A ms) (hS : ∀ ad, A = some ad → ad.block < B → S ad.block) : AtS w S A ms := fun k hk => by
  obtain ⟨ad, e, hb, hc⟩ := h k hk
  exact ⟨ad, e, hS ad e hb, hc⟩
def slN : Value → Nat
  | .slice _ n _ => n
  | _ => 0
theorem row_only (w : World) (g : Nat) (cs : Array Value) : w.grownBy (w.setRow g cs) (some g) :=
  ⟨rfl, rfl, rfl, by rw [setRow_size]; exact Nat.le_refl _, fun i _ hne => setRow_other _ _ _ _ (fun e => hne (by rw [e]))⟩
theorem join_many {op : Int} {l : List Ex} {r : List Tk} (h : l.length ≠ 1) : joinE op l r = some (.mk op 0 0 0 ⟨#[]⟩ ⟨#[]⟩ l, r) := by
  unfold joinE
  split
  · simp at h
  · rfl
theorem own_ge {w : World} {base k n c : Nat} {ad : Addr} {ms : List Xe} (h : OwnE EX w base (.slice (some ad) k c) ms) (hn : n < ms.length) : base ≤ ad.block := by
  rcases Joins.ownsRow_forms h with ⟨e, h0⟩ | ⟨g, cap, e⟩
  · omega
  · injection e with e1 _ _
    injection e1 with e1
    subst e1
    exact h.ge g rfl
theorem wrap_post {w w0 w1 : World} {g : Nat} {x : Ex} {m : Xe} {r : List Tk} {cs : Array Value} (hs : w0.heap.size = w.heap.size + 1) (hgl : g < w.heap.size) (hx : ExA w1 (Frs w0 w1) x m) (ht : TkO w1 g r) (hg : w.grownBy w1 (some g)) :
    ExA (w1.setRow w.heap.size cs) (Frs w (w1.setRow w.heap.size cs)) x m ∧ TkO (w1.setRow w.heap.size cs) g r ∧ w.grownBy (w1.setRow w.heap.size cs) (some g) :=
  ⟨hx.keep (fun i hi => setRow_other _ _ _ _ (by have := hi.1; omega)) (fun i hi => ⟨by have := hi.1; omega, by rw [setRow_size]; exact hi.2⟩), ht.far (row_only _ _ _) (fun k e => by injection e with e; omega), only_far hg (row_only _ _ _) (fun k e => by injection e with e; omega)⟩
end Go.Proofs.YtpldopoeopjcoaaGreatDoor
/- unhex of package value returns what unhexL reads. -/
namespace Go.Proofs.YtpldopoeopjcoaaGreatDoor
open Go.RowKit
def uhS (s : ByteArray) : ByteArray := match unhexL s.data.toList with | some t => ⟨t.toArray⟩ | none => ⟨#[]⟩
def uhB (s : ByteArray) : Bool := (unhexL s.data.toList).isSome
/-- What is left to be read, behind what has been read. -/
def Left (s : ByteArray) (i : Nat) (acc : List UInt8) : Prop := unhexL s.data.toList = (unhexL (s.data.toList.drop i)).map (acc ++ ·)
theorem Left.start (s : ByteArray) : Left s 0 [] := by unfold Left; simp
theorem drop_two (s : ByteArray) (i : Nat) (h0 : i < s.size) (h : i + 1 < s.size) : s.data.toList.drop i = s[i] :: s[i + 1] :: s.data.toList.drop (i + 2) := by
  rw [List.drop_eq_getElem_cons (by simpa using h0), List.drop_eq_getElem_cons (by simpa using h)]; rfl
theorem Left.step {s : ByteArray} {i : Nat} {acc : List UInt8} (h : Left s i acc) (h0 : i < s.size) (hj : i + 1 < s.size) (ha : 0 ≤ unhexd s[i]) (hb : 0 ≤ unhexd s[i + 1]) : Left s (i + 2) (acc ++ [pairc s[i] s[i + 1]]) := by
  unfold Left at *
  rw [h, drop_two s i h0 hj, unhexL, if_neg (by omega)]
  cases unhexL (s.data.toList.drop (i + 2)) <;> simp
theorem Left.stop {s : ByteArray} {i : Nat} {acc : List UInt8} (h : Left s i acc) (h0 : i < s.size) (hj : i + 1 < s.size) (ha : unhexd s[i] < 0 ∨ unhexd s[i + 1] < 0) : unhexL s.data.toList = none := by
  unfold Left at h
  rw [h, drop_two s i h0 hj, unhexL, if_pos ha]; rfl
theorem Left.done {s : ByteArray} {i : Nat} {acc : List UInt8} (h : Left s i acc) (hj : s.size ≤ i) : unhexL s.data.toList = some acc := by
  unfold Left at h
  rw [h, List.drop_eq_nil_of_le (by simpa using hj)]; simp [unhexL]
theorem unhexL_odd : ∀ l : List UInt8, l.length % 2 = 1 → unhexL l = none
  | [], h => by simp at h
  | [_], _ => rfl
  | a :: b :: r, h => by
    rw [unhexL, unhexL_odd r (by simp at h; omega)]; split <;> rfl
theorem or16 : ∀ a b : Fin 16, bits .or .i64 ((a.val : Int) * 16) (b.val : Int) = 16 * (a.val : Int) + (b.val : Int) := by decide +kernel
theorem or_pairc (a b : UInt8) (ha : 0 ≤ unhexd a) (hb : 0 ≤ unhexd b) : bits .or .i64 (unhexd a * 16) (unhexd b) = ((pairc a b).toNat : Int) := by
  have h1 := unhexd_bounds a
  have h2 := unhexd_bounds b
  rw [pairc_val a b ha hb]
  have := or16 ⟨(unhexd a).toNat, by omega⟩ ⟨(unhexd b).toNat, by omega⟩
  simp only [Int.toNat_of_nonneg ha, Int.toNat_of_nonneg hb] at this
  exact this
theorem tupSB {a b : ByteArray} {m n : Bool} (h : a = b) (k : m = n) : Ending.returned (.tuple #[.string a, .bool m]) = .returned (.tuple #[.string b, .bool n]) := by rw [h, k]
set_option maxRecDepth 100000 in
set_option maxHeartbeats 1000000 in
theorem vunhex_even (s : ByteArray) (w : World) (hs : s.size ≤ 1000000) (he : s.size % 2 = 0) (ht : Tab w) :
    Calls Tryz.prog 117 #[.string s] w fun e w' => e = .returned (.tuple #[.string (uhS s), .bool (uhB s)]) ∧ Below w.heap.size w w' := by
  obtain ⟨i0, hi, hz0, hz1, hz2⟩ := info_parts Tryz.info5
  have h8 : (((s.size : Int) % 2) != 0) = false := by simp; omega
  have HE := Lib.hid he
  clear he
  go_enter Tryz.func117, Tryz.ntmps117
  go_wp2_with (at_make; refine wpList_make_own _ rfl _ _ 22 rfl w.heap.size 5 i0 _ 1 Tryz.underlying22 hi hz0 hz1 _ _ _ (s.size / 2) rfl rfl (by omega) (by rw [hz2]; omega) (by unfold maxLen; omega) (Nat.le_refl _) ?_; intro w1 hown1 hg1)
  have hb1 : Below w.heap.size w w1 := (Below.refl _ _).grown hg1 (Nat.le_refl _) (by simp)
  clear hg1
  go_loopw [4, 5] (fun v x wr => ∃ (i : Nat) (acc : List UInt8), i ≤ s.size ∧ x = .int .i64 (i : Int) ∧ acc.length ≤ 1000000 ∧ wr.ownsRow w.heap.size 5 1 v acc.length (acc.map bv) ∧ Below w.heap.size w wr ∧ Hid (Left s i acc ∧ acc.length * 2 = i)) (fun _ i _ => s.size - (intOf i).toNat)
  case atStart => exact ⟨0, [], by omega, rfl, by simp, by simpa using hown1, hb1, Left.start s, rfl⟩
  case round =>
    obtain ⟨i, acc, hj, rfl, hacc, hown, hb, hleft⟩ := hrel
    clear hown1 hb1
    have ht' := ht.below hb (Nat.le_refl _)
    by_cases hlt : i < s.size
    · have hlt1 : i + 1 < s.size := by have := HE.out; have := hleft.out.2; omega
      have a1 : (0 : Int) ≤ (i : Int) := by omega
      have a2 : (i : Int) < (s.size : Int) := by omega
      have a3 : (0 : Int) ≤ (i : Int) + 1 := by omega
      have a4 : (i : Int) + 1 < (s.size : Int) := by omega
      have b1 := unhexd_bounds s[i]
      have b2 := unhexd_bounds s[i + 1]
      have a5 : IntKind.i64.wrap ((i : Int) + 1) = (i : Int) + 1 := IntWalk.i64_in _ (by omega)
      have a6 : ((i : Int) + 1).toNat = i + 1 := by omega
      go_wp2_with fail
      go_quiet ((go_at_call 129; exact Calls.quiet_of_same (vdigit _ _ ht')))
      clear a5
      by_cases n1 : unhexd s[i] < 0
      · have H := Lib.hid (hleft.out.1.stop hlt hlt1 (.inl n1))
        go_wp2
        go_ret2
        exact ⟨tupSB (by rw [uhS, H.out]) (by rw [uhB, H.out]; rfl), below_drewN hb _⟩
      · by_cases n2 : unhexd s[i + 1] < 0
        · have H := Lib.hid (hleft.out.1.stop hlt hlt1 (.inr n2))
          go_wp2
          go_ret2
          exact ⟨tupSB (by rw [uhS, H.out]) (by rw [uhB, H.out]; rfl), below_drewN hb _⟩
        · have m1 : 0 ≤ unhexd s[i] := by omega
          have m2 : 0 ≤ unhexd s[i + 1] := by omega
          have m3 : unhexd s[i] < 16 := b1.2
          have m4 : unhexd s[i + 1] < 16 := b2.2
          have H := Lib.hid (hleft.out.1.step hlt hlt1 m1 m2)
          clear b1 b2 n1 n2
          have m5 := or_pairc _ _ m1 m2
          have m6 : (0 : Int) ≤ ((pairc s[i] s[i + 1]).toNat : Int) := by omega
          have m7 : ((pairc s[i] s[i + 1]).toNat : Int) < 256 := by have := (pairc s[i] s[i + 1]).toNat_lt; omega
          have hown' : (wr.drewN nq).ownsRow w.heap.size 5 1 u4 acc.length (acc.map bv) := hown
          go_wp2_with (at_builtin; refine wpList_append_own _ rfl _ _ 22 rfl w.heap.size 5 i0 _ 1 1 Tryz.underlying22 hi hz0 hz1 hz2 rfl (by omega) _ _ _ rfl (hown'.alloc _) ⟨wr.heap.size, 0, none⟩ 1 1 [bv (pairc s[i] s[i + 1])] rfl rfl (cell_one_new _ _ _) (by simp [Value.oneCell']) (by unfold maxLen; omega) (by omega) (by have := hb.size; simp; omega) ?_; intro v2 w2 hown2 hg2 _)
          have hb2 : Below w.heap.size w w2 := below_grown_own ((below_drewN hb nq).alloc hb.size _) hown (Nat.le_refl _) hg2 (by have := hb.size; simp; omega)
          clear hg2 m5
          go_roundw
          case rel => exact ⟨i + 2, acc ++ [pairc s[i] s[i + 1]], by omega, by go_num, by have := hleft.out.2; simp; omega, by simpa using hown2, hb2, H.out, by have := hleft.out.2; simp; omega⟩
          case measure => simp [intOf]; omega
    · have H := Lib.hid (hleft.out.1.done (by omega))
      have hcv := conv_own (P := Tryz.prog) (src := 22) (dst := 9) hown Tryz.underlying22 Tryz.underlying5 Tryz.underlying9
      rw [show (⟨acc.toArray⟩ : ByteArray) = uhS s by rw [uhS, H.out]] at hcv
      go_wp2
      go_ret2
      exact ⟨tupSB rfl (by rw [uhB, H.out]; rfl), hb⟩
theorem vunhex_odd (s : ByteArray) (w : World) (hs : s.size ≤ 1000000) (he : s.size % 2 = 1) :
    Calls Tryz.prog 117 #[.string s] w fun e w' => e = .returned (.tuple #[.string (uhS s), .bool (uhB s)]) ∧ Below w.heap.size w w' := by
  have h8 : (((s.size : Int) % 2) != 0) = true := by simp; omega
  have H := Lib.hid (unhexL_odd s.data.toList (by simpa using he))
  clear he
  go_enter Tryz.func117, Tryz.ntmps117
  go_wp2
  go_ret2
  exact ⟨tupSB (by rw [uhS, H.out]) (by rw [uhB, H.out]; rfl), Below.refl _ _⟩
theorem vunhex (s : ByteArray) (w : World) (hs : s.size ≤ 1000000) (ht : Tab w) :
    Calls Tryz.prog 117 #[.string s] w fun e w' => e = .returned (.tuple #[.string (uhS s), .bool (uhB s)]) ∧ Below w.heap.size w w' := by
  rcases Nat.mod_two_eq_zero_or_one s.size with h | h
  · exact vunhex_even s w hs h ht
  · exact vunhex_odd s w hs h
end Go.Proofs.YtpldopoeopjcoaaGreatDoor
