/- Texts of one proof, laid together. -/
import Derived.Test.YtpldopoeopjcoaaGreatDoorK07
import Derived.Test.YtpldopoeopjcoaaGreatDoorK08
import Derived.Lib.AppendIntMem
import Derived.IntWalk
import Derived.Lib.AtoiAllCases
import Derived.Test.YtpldopoeopjcoaaGreatDoorK05
import Derived.Test.YtpldopoeopjcoaaGreatDoorK01
import Derived.Deep.DrawnRows
import Derived.Test.YtpldopoeopjcoaaGreatDoorK06
import Derived.Deep.RegionWith
import Derived.Deep.QuietTactic
import Derived.BigQuiet
/- Numbers as texts: Itoa of Go's library. -/
namespace Go.Proofs.YtpldopoeopjcoaaGreatDoor
open Go.RowKit
/-- The numeral of n as a string. -/
def numS (n : Int) : ByteArray := ⟨(Lib.itoa n).toArray⟩
/-- The table of powers of ten of Go's library. -/
def Pow (w : World) : Prop := Lib.TabIs Tryz.prog w "internal/strconv.uint64pow10" .u64 Lib.pow10Tab
theorem pow_g : Tryz.prog.globalNamed "internal/strconv.uint64pow10" = some 2 := by kernel_rfl
theorem var_below {P : Program} {w w' : World} {name : String} {g : Nat} {cs : Array Value} {B : Nat} (hg : P.globalNamed name = some g) (h : w.var? P name = some cs) (hb : Below B w w') (hB : w.heap.size ≤ B) : w'.var? P name = some cs := by
  have hlt : g < w.heap.size := by
    unfold World.var? at h
    rw [hg] at h
    simp only [Option.bind_some] at h
    split at h
    · rename_i he
      exact (Array.getElem?_eq_some_iff.1 he).1
    · cases h
  unfold World.var? at h ⊢
  rw [hg] at h ⊢
  simp only [Option.bind_some] at h ⊢
  rw [hb.block g (by omega)]
  exact h
theorem Pow.below {B : Nat} {w w' : World} (h : Pow w) (hb : Below B w w') (hB : w.heap.size ≤ B) : Pow w' := var_below pow_g h hb hB
theorem vitoa (n : Int) (h0 : -9223372036854775808 ≤ n) (h1 : n ≤ 9223372036854775807) (w : World) (hp : Pow w) :
    Calls Tryz.prog 37 #[.int .i64 n] w fun e w' => e = .returned (.string (numS n)) ∧ Below w.heap.size w w' :=
  (Tryz.strconv_Itoa n h0 h1 w hp).mono fun _ _ hh => ⟨hh.1, by obtain ⟨k, os, rfl⟩ := hh.2; exact Lib.below_grow _ _ (Nat.le_refl _) _ _⟩
end Go.Proofs.YtpldopoeopjcoaaGreatDoor
/- Number of the reference. -/
namespace Go.Proofs.YtpldopoeopjcoaaGreatDoor
open Go.RowKit
theorem numS_pos (n : Nat) : numS (n : Int) = decS n := by
  unfold numS decS Lib.itoa; rw [if_neg (by omega)]; rfl
theorem numS_neg (n : Nat) (h : 0 < n) : numS (-(n : Int)) = ⟨#[45]⟩ ++ decS n := by
  unfold numS decS Lib.itoa; rw [if_pos (by omega), show (-(n : Int)).natAbs = n by omega]
  apply ByteArray.ext; simp
theorem numS_least : numS (-9223372036854775808) = ⟨#[45]⟩ ++ decS 922337203685477580 ++ decS 8 := by
  have e : (-9223372036854775808 : Int) = -((9223372036854775808 : Nat) : Int) := by omega
  rw [e, numS_neg _ (by omega)]
  have : decS 9223372036854775808 = decS 922337203685477580 ++ decS 8 := by
    unfold decS
    rw [Lib.decDigits, dif_neg (by omega)]
    rw [show 9223372036854775808 / 10 = 922337203685477580 from rfl, show 9223372036854775808 % 10 = 8 from rfl, Lib.decDigits_one (show 8 < 10 by omega)]
    apply ByteArray.ext; simp
  rw [this, ByteArray.append_assoc]
attribute [local irreducible] decS
end Go.Proofs.YtpldopoeopjcoaaGreatDoor
/- Decimal digits: plain facts. -/
namespace Go.Proofs.YtpldopoeopjcoaaGreatDoor
/-- The number that decimal digits say. -/
def valD (l : List UInt8) : Nat := l.foldl (fun v c => 10 * v + (c.toNat - 48)) 0
theorem valD_snoc (l : List UInt8) (c : UInt8) : valD (l ++ [c]) = 10 * valD l + (c.toNat - 48) := by simp [valD, List.foldl_append]
def digB (c : UInt8) : Bool := decide (48 ≤ c.toNat) && decide (c.toNat ≤ 57)
theorem dig_nat (d : Nat) (h : d < 10) : (UInt8.ofNat (48 + d)).toNat = 48 + d := by rw [UInt8.toNat_ofNat']; omega
theorem dec_props (u : Nat) : valD (Lib.decDigits u) = u ∧ (Lib.decDigits u).all digB = true ∧ Lib.decDigits u ≠ [] := by
  induction u using Nat.strongRecOn with
  | _ u ih =>
    by_cases h : u < 10
    · rw [Lib.decDigits_one h]
      refine ⟨?_, ?_, by simp⟩
      · simp [valD]; omega
      · simp [digB]; omega
    · have := ih (u / 10) (by omega)
      rw [Lib.decDigits, dif_neg h]
      refine ⟨?_, ?_, by simp⟩
      · rw [valD_snoc, this.1, dig_nat _ (by omega)]; omega
      · rw [List.all_append, this.2.1]
        simp [digB]; omega
theorem dec_inj {u v : Nat} (h : Lib.decDigits u = Lib.decDigits v) : u = v := by rw [← (dec_props u).1, h, (dec_props v).1]
theorem dec_head (u : Nat) : ∃ c r, Lib.decDigits u = c :: r ∧ 48 ≤ c.toNat ∧ c.toNat ≤ 57 := by
  obtain ⟨_, h2, h3⟩ := dec_props u
  cases hl : Lib.decDigits u with
  | nil => exact absurd hl h3
  | cons c r =>
    rw [hl] at h2
    simp [digB] at h2
    exact ⟨c, r, rfl, h2.1.1, h2.1.2⟩
theorem itoa_inj {m n : Int} (h : Lib.itoa m = Lib.itoa n) : m = n := by
  unfold Lib.itoa at h
  split at h <;> split at h
  · injection h with _ h
    have := dec_inj h; omega
  · obtain ⟨c, r, e, h1, h2⟩ := dec_head n.toNat
    rw [e] at h; injection h with h _; rw [← h] at h1; simp at h1
  · obtain ⟨c, r, e, h1, h2⟩ := dec_head m.toNat
    rw [e] at h; injection h with h _; rw [h] at h1; simp at h1
  · have := dec_inj h; omega
theorem itoa_head (n : Int) : ∃ c r, Lib.itoa n = c :: r ∧ (c.toNat = 45 ∨ (48 ≤ c.toNat ∧ c.toNat ≤ 57)) := by
  unfold Lib.itoa; split
  · exact ⟨45, _, rfl, .inl rfl⟩
  · obtain ⟨c, r, e, h1, h2⟩ := dec_head n.toNat
    exact ⟨c, r, e, .inr ⟨h1, h2⟩⟩
theorem bytes_ext {a b : ByteArray} (h : a.data.toList = b.data.toList) : a = b := ByteArray.ext (Array.toList_inj.1 h)
end Go.Proofs.YtpldopoeopjcoaaGreatDoor
/- ReadNumber of the reference. -/
namespace Go.Proofs.YtpldopoeopjcoaaGreatDoor
open Go.RowKit
theorem numS_size (n : Int) (h0 : -9223372036854775808 ≤ n) (h1 : n ≤ 9223372036854775807) : (numS n).size ≤ 20 := by
  have e : (numS n).size = (Lib.itoa n).length := by show (Lib.itoa n).toArray.size = _; simp
  rw [e]; unfold Lib.itoa; split
  · have := dec_len n.natAbs (by omega)
    simp; omega
  · have := dec_len n.toNat (by omega)
    omega
theorem snoc_ind {α : Type} {p : List α → Prop} (h0 : p []) (h1 : ∀ l c, p l → p (l ++ [c])) (l : List α) : p l := by
  have H : ∀ r : List α, p r.reverse := by
    intro r
    induction r with
    | nil => simpa using h0
    | cons a r ih => rw [List.reverse_cons]; exact h1 _ _ ih
  simpa using H l.reverse
theorem w64_in {n : Int} (h0 : -9223372036854775808 ≤ n) (h1 : n ≤ 9223372036854775807) : wrap64 n = n := by unfold wrap64; omega
def rdStep (n : Int) (c : UInt8) : Int := if digB c then wrap64 (wrap64 (n * 10) - ((c.toNat : Int) - 48)) else n
def rdW (l : List UInt8) : Int := l.foldl rdStep 0
theorem rdW_snoc (l : List UInt8) (c : UInt8) : rdW (l ++ [c]) = rdStep (rdW l) c := by simp [rdW, List.foldl_append]
theorem i64_bd (n : Int) : -9223372036854775808 ≤ wrap64 n ∧ wrap64 n ≤ 9223372036854775807 := by unfold wrap64; omega
theorem rdStep_bd {n : Int} (c : UInt8) (h : -9223372036854775808 ≤ n ∧ n ≤ 9223372036854775807) : -9223372036854775808 ≤ rdStep n c ∧ rdStep n c ≤ 9223372036854775807 := by
  unfold rdStep; split
  · exact i64_bd _
  · exact h
theorem rdW_bd (l : List UInt8) : -9223372036854775808 ≤ rdW l ∧ rdW l ≤ 9223372036854775807 := by
  refine snoc_ind (p := fun l => -9223372036854775808 ≤ rdW l ∧ rdW l ≤ 9223372036854775807) (by simp [rdW]) (fun l c ih => ?_) l
  rw [rdW_snoc]; exact rdStep_bd c ih
theorem rdW_dig (l : List UInt8) : l.all digB = true → valD l ≤ 9223372036854775808 → rdW l = -(valD l : Int) := by
  refine snoc_ind (p := fun l => l.all digB = true → valD l ≤ 9223372036854775808 → rdW l = -(valD l : Int)) (fun _ _ => rfl) (fun l c ih hd hv => ?_) l
  · skip
    rw [List.all_append] at hd
    simp only [Bool.and_eq_true, List.all_cons, List.all_nil, Bool.and_true] at hd
    rw [valD_snoc] at hv
    have hc := hd.2
    unfold digB at hc
    simp at hc
    rw [rdW_snoc, ih hd.1 (by omega), valD_snoc, rdStep, if_pos hd.2]
    have e1 : wrap64 (-(valD l : Int) * 10) = -(valD l : Int) * 10 := w64_in (by omega) (by omega)
    rw [e1, w64_in (by omega) (by omega)]
    omega
theorem rdW_neg (l : List UInt8) : rdW (45 :: l) = rdW l := rfl
/-- What ReadNumber makes of a text. -/
def rdN (s : ByteArray) : Int :=
  if s.size = 0 then 0 else if 20 < s.size then 0 else if (s.data.toList.head?.map (·.toNat)) = some 45 then rdW s.data.toList else wrap64 (-(rdW s.data.toList))
theorem rdN_bd (s : ByteArray) : -9223372036854775808 ≤ rdN s ∧ rdN s ≤ 9223372036854775807 := by
  unfold rdN; split
  · omega
  · split
    · omega
    · split
      · exact rdW_bd _
      · exact i64_bd _
theorem numS_list (m : Int) : (numS m).data.toList = Lib.itoa m := by unfold numS; simp
theorem rdN_num (m : Int) (h0 : -9223372036854775808 ≤ m) (h1 : m ≤ 9223372036854775807) : rdN (numS m) = m := by
  have hz := numS_size m h0 h1
  have hl := numS_list m
  have hlen : (numS m).size = (Lib.itoa m).length := by rw [← hl, Array.length_toList]; rfl
  obtain ⟨c, r, hcr, _⟩ := itoa_head m
  have hp : (numS m).size ≠ 0 := by rw [hlen, hcr]; simp
  unfold rdN
  rw [if_neg hp, if_neg (by omega), hl]
  unfold Lib.itoa at *
  split
  · rename_i hneg
    obtain ⟨p1, p2, _⟩ := dec_props m.natAbs
    rw [if_pos (by simp), rdW_neg, rdW_dig _ p2 (by rw [p1]; omega), p1]
    omega
  · rename_i hneg
    obtain ⟨p1, p2, _⟩ := dec_props m.toNat
    obtain ⟨c', r', e, q1, q2⟩ := dec_head m.toNat
    rw [if_neg (by rw [e]; simp; omega), rdW_dig _ p2 (by rw [p1]; omega), p1, w64_in (by omega) (by omega)]
    omega
theorem numS_ext {s : ByteArray} {m : Int} (h : Lib.itoa m = s.data.toList) : numS m = s := bytes_ext (by rw [numS_list, h])
end Go.Proofs.YtpldopoeopjcoaaGreatDoor
/- The walk of ReadNumber of the reference. -/
namespace Go.Proofs.YtpldopoeopjcoaaGreatDoor
open Go.RowKit
theorem digB_lo {c : UInt8} (h : (c.toNat : Int) < 48) : digB c = false := by unfold digB; simp; omega
theorem digB_hi {c : UInt8} (h : 57 < (c.toNat : Int)) : digB c = false := by unfold digB; simp; omega
theorem digB_in {c : UInt8} (h : 48 ≤ (c.toNat : Int)) (k : (c.toNat : Int) ≤ 57) : digB c = true := by unfold digB; simp; omega
theorem rdN_short {s : ByteArray} (hl : s.size ≤ 20) : rdN s = if s.size = 0 then 0 else if (s.data.toList.head?.map (·.toNat)) = some 45 then rdW s.data.toList else wrap64 (-(rdW s.data.toList)) := by
  unfold rdN; split
  · rfl
  · rw [if_neg (by omega)]
theorem head_eq {s : ByteArray} (h : 0 < s.size) : s.data.toList.head? = some s[0] := by
  have h' : 0 < s.data.toList.length := by rw [Array.length_toList]; exact h
  rw [List.head?_eq_getElem?, List.getElem?_eq_getElem h']; rfl
def RdPost (s : ByteArray) (w : World) (e : Ending) (w' : World) : Prop := e = .returned (.tuple #[.int .i64 (rdN s), .bool ((numS (rdN s)).toList == s.toList)]) ∧ w = w'
attribute [local irreducible] numS rdN rdW
end Go.Proofs.YtpldopoeopjcoaaGreatDoor
/- Atoi reads what Itoa writes: plain facts. -/
namespace Go.Proofs.YtpldopoeopjcoaaGreatDoor
def I64 (n : Int) : Prop := -9223372036854775808 ≤ n ∧ n ≤ 9223372036854775807
theorem parse_dig : ∀ (l : List UInt8) (acc : Nat), l.all digB = true → l.foldl (fun v c => 10 * v + (c.toNat - 48)) acc < 18446744073709551616 → Lib.parseUint10 acc l = .ok (l.foldl (fun v c => 10 * v + (c.toNat - 48)) acc)
  | [], acc, _, _ => rfl
  | c :: r, acc, hd, hv => by
    simp only [List.all_cons, Bool.and_eq_true] at hd
    have hc := hd.1
    unfold digB at hc
    simp at hc
    have mono : ∀ (r : List UInt8) (a : Nat), a ≤ r.foldl (fun v c => 10 * v + (c.toNat - 48)) a := by
      intro r
      induction r with
      | nil => intro a; exact Nat.le_refl _
      | cons x r ih => intro a; rw [List.foldl_cons]; exact Nat.le_trans (by omega) (ih _)
    have hm := mono r (10 * acc + (c.toNat - 48))
    rw [List.foldl_cons] at hv ⊢
    unfold Lib.parseUint10
    rw [if_pos hc, if_neg (by omega), if_neg (by omega), show acc * 10 + (c.toNat - 48) = 10 * acc + (c.toNat - 48) by omega]
    exact parse_dig r _ hd.2 hv
theorem atoi_itoa (m : Int) (h : I64 m) : Lib.atoiAll (Lib.itoa m) = .ok m := by
  unfold I64 at h
  unfold Lib.itoa
  split
  · rename_i hneg
    obtain ⟨p1, p2, p3⟩ := dec_props m.natAbs
    have hp : Lib.parseMag (Lib.decDigits m.natAbs) = .ok m.natAbs := by
      unfold Lib.parseMag
      rw [if_neg p3, parse_dig _ 0 p2 (by show valD _ < _; rw [p1]; omega)]
      exact congrArg _ p1
    unfold Lib.atoiAll
    simp only [show ((45 : UInt8).toNat = 45) from rfl, or_true, if_true, hp]
    simp
    rw [if_neg (by omega)]
    congr 1
    omega
  · rename_i hneg
    obtain ⟨p1, p2, p3⟩ := dec_props m.toNat
    obtain ⟨c', r', e, q1, q2⟩ := dec_head m.toNat
    have hp : Lib.parseMag (Lib.decDigits m.toNat) = .ok m.toNat := by
      unfold Lib.parseMag
      rw [if_neg p3, parse_dig _ 0 p2 (by show valD _ < _; rw [p1]; omega)]
      exact congrArg _ p1
    rw [e] at hp ⊢
    unfold Lib.atoiAll
    have n43 : (c'.toNat = 43) = False := by simp; omega
    have n45 : (c'.toNat = 45) = False := by simp; omega
    have hnn : (m.toNat : Int) = m := Int.toNat_of_nonneg (by omega)
    have hlt : ¬ (9223372036854775808 ≤ m.toNat) := by omega
    simp only [n43, n45, or_self, hp, hlt, and_false, false_and, if_false, not_false_eq_true, true_and, hnn]
theorem atoi_num {text : ByteArray} {m : Int} (h : I64 m) (e : numS m = text) : Lib.atoiAll text.data.toList = .ok m := by
  rw [← e, numS_list]; exact atoi_itoa m h
end Go.Proofs.YtpldopoeopjcoaaGreatDoor
/- What the walks read of the variables; Atoi. -/
namespace Go.Proofs.YtpldopoeopjcoaaGreatDoor
open Go.RowKit
def Mx (w : World) : Prop := ∃ m, w.cell? ⟨3, 0, none⟩ = some (.int .i64 m)
def ErrV (w : World) (g : Nat) : Prop := ∃ ev, w.cell? ⟨g, 0, none⟩ = some ev ∧ (ev = .nilIface ∨ ∃ te pe, ev = .iface te pe)
structure Env (w : World) : Prop where
  tab : Tab w
  pow : Pow w
  mx : Mx w
  es : ErrV w 6
  er : ErrV w 7
theorem Mx.below {w w' : World} (h : Mx w) (hb : Below w.heap.size w w') : Mx w' := by
  obtain ⟨m, hm⟩ := h
  exact ⟨m, (hb.cell (block_lt_of_cell hm)).trans hm⟩
theorem ErrV.below {w w' : World} {g : Nat} (h : ErrV w g) (hb : Below w.heap.size w w') : ErrV w' g := by
  obtain ⟨ev, hm, h⟩ := h
  exact ⟨ev, (hb.cell (block_lt_of_cell hm)).trans hm, h⟩
theorem Env.below {w w' : World} (h : Env w) (hb : Below w.heap.size w w') : Env w' :=
  ⟨h.tab.below hb (Nat.le_refl _), h.pow.below hb (Nat.le_refl _), h.mx.below hb, h.es.below hb, h.er.below hb⟩
theorem vatoi_ok (s : ByteArray) (hs : s.size ≤ 1000000) (v : Int) (h : Lib.atoiAll s.data.toList = .ok v) (w : World) :
    Calls Tryz.prog 80 #[.string s] w fun e w' => e = .returned (.tuple #[.int .i64 v, .nilIface]) ∧ Below w.heap.size w w' :=
  (Tryz.strconv_Atoi_ok s (by omega) v h w).mono fun _ _ hh => ⟨hh.1, by
    rcases hh.2 with rfl | ⟨t, rfl⟩
    · exact Below.refl _ _
    · exact Joins.below_bytesWorld _ _ _ _ (Nat.le_refl _)⟩
def AtoiBad (w : World) (e : Ending) (w' : World) : Prop := ∃ (v : Int) (N : Nat), e = .returned (.tuple #[.int .i64 v, .iface 146 (.pointer (some ⟨N, 0, none⟩))]) ∧ Below w.heap.size w w'
theorem vatoi_bad (s : ByteArray) (hs : s.size ≤ 1000000) (h : ∀ v, Lib.atoiAll s.data.toList ≠ .ok v) (w : World) (he : Env w) :
    Calls Tryz.prog 80 #[.string s] w (AtoiBad w) := by
  cases ha : Lib.atoiAll s.data.toList
  · exact absurd ha (h _)
  · obtain ⟨ev, h1, h2⟩ := he.es
    exact (Any.strconv_Atoi_syntax Tryz.laysC172 s (by omega) ha ev w h1 h2).mono fun _ _ hh => by
      obtain ⟨N, h1, _, _, h4⟩ := hh
      exact ⟨_, N, h1, h4⟩
  · obtain ⟨ev, h1, h2⟩ := he.er
    exact (Tryz.strconv_Atoi_range s (by omega) ha ev w h1 h2).mono fun _ _ hh => by
      obtain ⟨N, h1, _, _, h4⟩ := hh
      exact ⟨_, N, h1, h4⟩
end Go.Proofs.YtpldopoeopjcoaaGreatDoor
/- cut of package expression's parser. -/
namespace Go.Proofs.YtpldopoeopjcoaaGreatDoor
open Go.RowKit
theorem bszE (s : ByteArray) : s.data.toList.length = s.size := Array.length_toList
theorem extE0 (s : ByteArray) (i : Nat) : (s.extract 0 i).data.toList = s.data.toList.take i := by rw [Lib.extract_data]; simp
theorem extE1 (s : ByteArray) (i : Nat) : (s.extract i s.size).data.toList = s.data.toList.drop i := by
  rw [Lib.extract_data, List.take_of_length_le (by rw [List.length_drop, bszE]; omega)]
theorem extE_eq (s : ByteArray) (i : Nat) : s.extract 0 i = ⟨(s.data.toList.take i).toArray⟩ := bytes_ext (by rw [extE0])
theorem tk_ret2 {fn : Func} (h : fn.results = #[.cell 2 100, .tmp 3]) (tmps : Array Value) (w : World) (g : Nat) (t : Tk) (hp : tmps.getD 2 undef = .pointer (some ⟨g, 0, none⟩)) (hg : Blk w g 100 (tkC t)) :
    (results fn tmps).run Tryz.prog w = .ok (.tuple #[.agg (tkC t), tmps.getD 3 undef]) w := by
  have hp' : tmps[2]?.getD undef = .pointer (some ⟨g, 0, none⟩) := by simpa using hp
  simp [results, h, hp', asAddr, run_loadVar_row w g 100 100 (tkC t) (0, 0) _ hg Tryz.underlying100 rfl (tk_sz t)]
def CPost (o : Option (Tk × Nat)) (w : World) (e : Ending) (w' : World) : Prop :=
  match o with
  | some (t, k) => e = .returned (.tuple #[.agg (tkC t), .int .i64 (k : Int)]) ∧ Below w.heap.size w w'
  | none => e = .panicked [{ v := feV, recovered := false }] ∧ Below w.heap.size w w'
theorem cutL_cons (a : UInt8) (r : List UInt8) : cutL (a :: r) =
    if nma a = true then some (⟨1, ⟨((a :: r).take (runL nmd (a :: r))).toArray⟩, 0⟩, runL nmd (a :: r))
    else if (dig38 a || decide (a.toNat = 45)) = true then
      match Lib.atoiAll ((a :: r).take (1 + runL dig38 r)) with
      | .ok m => if Lib.itoa m = (a :: r).take (1 + runL dig38 r) then some (⟨2, ⟨#[]⟩, m⟩, 1 + runL dig38 r) else none
      | _ => none
    else if a.toNat = 34 then
      (if (a :: r)[1 + runL inTx r]? = some 34 then some (⟨3, ⟨(r.take (runL inTx r)).toArray⟩, 0⟩, 1 + runL inTx r + 1) else none)
    else (signAt sgL (a :: r)).map fun x => (⟨4, x, 0⟩, x.size) := rfl
theorem s_cons (s : ByteArray) (h0 : 0 < s.size) : s.data.toList = s[0] :: s.data.toList.drop 1 := by
  have : s.data.toList.drop 0 = s[0] :: s.data.toList.drop 1 := List.drop_eq_getElem_cons (by rw [bszE]; exact h0)
  rw [List.drop_zero] at this
  exact this
abbrev tkZ : Array Value := #[.int .i64 0, .string ⟨#[]⟩, .int .i64 0]
attribute [local irreducible] cutL runL nma nmd dig38 inTx signAt
set_option maxRecDepth 100000 in
set_option maxHeartbeats 8000000 in
theorem vcut_word (s : ByteArray) (h0 : 0 < s.size) (hs : s.size ≤ 1000000) (w : World) (hc : nma s[0] = true) :
    Calls Tryz.prog 65 #[.string s] w (CPost (cutL s.data.toList) w) := by
  have HC := Lib.hid (show cutL s.data.toList = some (⟨1, s.extract 0 (runL nmd s.data.toList), 0⟩, runL nmd s.data.toList) by
    rw [extE_eq]
    have e := s_cons s h0
    generalize s.data.toList = l at *
    rw [e, cutL_cons, if_pos hc])
  have HL := Lib.hid (vletter s[0])
  have HR := Lib.hid (fun W => vrun_part s hs W)
  have HN := Lib.hid (show runL nmd s.data.toList ≤ s.size by rw [← bszE]; exact runL_le _ _)
  generalize runL nmd s.data.toList = n at *
  have R0 := Lib.hid (Blk.new w tkZ 100)
  have B0 := Lib.hid ((Below.refl w.heap.size w).alloc (Nat.le_refl _) (.cells tkZ 100))
  have hn : (n : Int) ≤ (s.size : Int) := by have := HN.out; omega
  have hn2 : n ≤ s.size := HN.out
  have hz : (0 : Int) < (s.size : Int) := by omega
  clear hs
  go_enter Tryz.func65, Tryz.ntmps65
  go_wp2_with fail
  refine (HL.out _).mono ?_
  rintro e w1 ⟨rfl, rfl⟩
  rw [hc]
  go_wp2_with fail
  refine (HR.out _).mono ?_
  rintro e w1 ⟨rfl, rfl⟩
  go_wp2_with ((with_reducible refine store_blk ?_ 100 (.tmp 2) (.tmp 20) ?_ R0.out (tkC ⟨1, s.extract 0 n, 0⟩) ?_ ?_ ?_ ?_ ?_ ?_); (iterate 4 rfl); (exact tk_sz ⟨1, s.extract 0 n, 0⟩); rfl; (simp [Value.oneCell']))
  refine bodyPost_ret (tk_ret2 (fn := Tryz.f65) rfl _ _ w.heap.size ⟨1, s.extract 0 n, 0⟩ rfl (Blk.row R0.out _)) rfl ?_
  rw [HC.out]
  exact ⟨rfl, below_row B0.out (Nat.le_refl _) _⟩
set_option maxRecDepth 100000 in
set_option maxHeartbeats 8000000 in
theorem vcut_num (s : ByteArray) (h0 : 0 < s.size) (hs : s.size ≤ 1000000) (w : World) (hE : Env w) (hc : nma s[0] = false) (hd : (dig38 s[0] || decide (s[0].toNat = 45)) = true) :
    Calls Tryz.prog 65 #[.string s] w (CPost (cutL s.data.toList) w) := by
  have HL := Lib.hid (vletter s[0])
  have HD := Lib.hid (vdigit38 s[0])
  have HR := Lib.hid (fun W => vrun_digit (s.extract 1 s.size) (by rw [ByteArray.size_extract]; omega) W)
  have HN := Lib.hid (show 1 + runL dig38 (s.data.toList.drop 1) ≤ s.size by have := runL_le dig38 (s.data.toList.drop 1); rw [List.length_drop, bszE] at this; omega)
  have HE := Lib.hid (fun (W : World) (h : Below w.heap.size w W) => hE.below h)
  have HC := Lib.hid (show cutL s.data.toList = match Lib.atoiAll (s.extract 0 (1 + runL dig38 (s.data.toList.drop 1))).data.toList with
      | .ok m => if Lib.itoa m = (s.extract 0 (1 + runL dig38 (s.data.toList.drop 1))).data.toList then some (⟨2, ⟨#[]⟩, m⟩, 1 + runL dig38 (s.data.toList.drop 1)) else none
      | _ => none by
    rw [extE0]
    have e := s_cons s h0
    generalize s.data.toList = l at *
    generalize l.drop 1 = r at *
    rw [e, cutL_cons, if_neg (by rw [hc]; exact Bool.false_ne_true), if_pos hd])
  rw [extE1] at HR
  generalize runL dig38 (s.data.toList.drop 1) = n at *
  have R0 := Lib.hid (Blk.new w tkZ 100)
  have B0 := Lib.hid ((Below.refl w.heap.size w).alloc (Nat.le_refl _) (.cells tkZ 100))
  have hn : 1 + (n : Int) ≤ (s.size : Int) := by have := HN.out; omega
  have hn2 : 1 + n ≤ s.size := HN.out
  have hn4 : 1 + (n : Int) ≤ 1000000 := by omega
  have hz : (0 : Int) < (s.size : Int) := by omega
  have hz1 : (1 : Int) ≤ (s.size : Int) := by omega
  have hx : (s.extract 0 (1 + n)).size ≤ 1000000 := by rw [ByteArray.size_extract]; omega
  have q : (decide ((s[0].toNat : Int) = 45)) = decide (s[0].toNat = 45) := by
    by_cases h : s[0].toNat = 45
    · simp [h]
    · simp [h]; omega
  have q2 : ((s[0].toNat : Int) == 45) = decide (s[0].toNat = 45) := by rw [← q]; rfl
  clear q
  generalize decide (s[0].toNat = 45) = b3 at *
  have HDD := Lib.hid hd
  clear hE
  generalize dig38 s[0] = b2 at *
  go_enter Tryz.func65, Tryz.ntmps65
  go_wp2_with fail
  refine (HL.out _).mono ?_
  rintro e w1 ⟨rfl, rfl⟩
  rw [hc]
  go_wp2_with fail
  refine (HD.out _).mono ?_
  rintro e w1 ⟨rfl, rfl⟩
  cases b2
  · have hb3 : b3 = true := by simpa using HDD.out
    subst hb3
    go_wp2_with fail
    refine (HR.out _).mono ?_
    rintro e w1 ⟨rfl, rfl⟩
    go_wp2_with fail
    by_cases hv : ∃ v, Lib.atoiAll (s.extract 0 (1 + n)).data.toList = .ok v
    · obtain ⟨v, hv⟩ := hv
      have hvb := Lib.atoiAll_bounds hv
      have HC1 := Lib.hid (show cutL s.data.toList = if Lib.itoa v = (s.extract 0 (1 + n)).data.toList then some (⟨2, ⟨#[]⟩, v⟩, 1 + n) else none by rw [HC.out, hv])
      refine (vatoi_ok _ hx v hv _).mono ?_
      rintro e w2 ⟨rfl, hb2⟩
      have R2 := Lib.hid (R0.out.below hb2)
      have B2 := Lib.hid (below_then B0.out hb2)
      have HI := Lib.hid (fun (W : World) (h : Below w.heap.size w W) => vitoa v hvb.1 hvb.2 W (HE.out W h).pow)
      clear hb2 hv hvb HC
      by_cases heq : numS v = s.extract 0 (1 + n)
      · have es := str_eq heq
        have es2 : ((numS v).toList != (s.extract 0 (1 + n)).toList) = false := by rw [bne, es]; rfl
        have HR2 := Lib.hid (show cutL s.data.toList = some (⟨2, ⟨#[]⟩, v⟩, 1 + n) by rw [HC1.out, if_pos (by rw [← heq]; simp [numS])])
        clear heq HC1
        go_wp2_with fail
        go_region_with (go_at_call 37; refine (HI.out _ ?_).mono ?_; exact B2.out.drew; rintro e w5 ⟨rfl, hb5⟩)
        all_goals
          have R5 := Lib.hid ((R2.out.drewN 1).below hb5)
          have B5 := Lib.hid (below_then B2.out.drew hb5)
          clear hb5 R2 B2
          go_wp2_with ((with_reducible refine store_blk ?_ 100 (.tmp 2) (.tmp 54) ?_ R5.out (tkC ⟨2, ⟨#[]⟩, v⟩) ?_ ?_ ?_ ?_ ?_ ?_); (iterate 4 rfl); (exact tk_sz ⟨2, ⟨#[]⟩, v⟩); rfl; (simp [Value.oneCell']))
          refine bodyPost_ret (tk_ret2 (fn := Tryz.f65) rfl _ _ w.heap.size ⟨2, ⟨#[]⟩, v⟩ rfl (Blk.row R5.out _)) rfl ?_
          rw [HR2.out]
          exact ⟨rfl, below_row B5.out (Nat.le_refl _) _⟩
      · have es := str_ne heq
        have es2 : ((numS v).toList != (s.extract 0 (1 + n)).toList) = true := by rw [bne, es]; rfl
        have HR2 := Lib.hid (show cutL s.data.toList = none by rw [HC1.out, if_neg (fun h => heq (bytes_ext (by rw [← h]; simp [numS])))])
        clear heq HC1
        go_wp2_with fail
        go_region_with (go_at_call 37; refine (HI.out _ ?_).mono ?_; exact B2.out.drew; rintro e w5 ⟨rfl, hb5⟩)
        all_goals
          have B5 := Lib.hid (below_then B2.out.drew hb5)
          clear hb5 R2 B2
          go_wp2_with fail
          refine (vfail _).mono ?_
          rintro e w6 ⟨rfl, rfl⟩
          have HP : CPost (cutL s.data.toList) w (.panicked [{ v := feV, recovered := false }]) w6 := by
            rw [HR2.out]
            exact ⟨rfl, B5.out⟩
          exact ⟨rfl, HP⟩
    · have HR2 := Lib.hid (show cutL s.data.toList = none by
        rw [HC.out]
        cases ha : Lib.atoiAll (s.extract 0 (1 + n)).data.toList with
        | ok v => exact absurd ⟨v, ha⟩ hv
        | _ => rfl)
      refine (vatoi_bad _ hx (fun v h => hv ⟨v, h⟩) _ (HE.out _ B0.out)).mono ?_
      rintro e w2 ⟨v, N, rfl, hb2⟩
      have B2 := Lib.hid (below_then B0.out hb2)
      clear hb2 hv HC
      go_wp2_with fail
      go_quiet (fail)
      go_wp2_with fail
      refine (vfail _).mono ?_
      rintro e w6 ⟨rfl, rfl⟩
      have HP : ∀ W, Below w.heap.size w W → CPost (cutL s.data.toList) w (.panicked [{ v := feV, recovered := false }]) W := fun W h => by
        rw [HR2.out]
        exact ⟨rfl, h⟩
      exact ⟨rfl, HP _ (below_drewN B2.out _)⟩
  · go_wp2_with fail
    refine (HR.out _).mono ?_
    rintro e w1 ⟨rfl, rfl⟩
    go_wp2_with fail
    by_cases hv : ∃ v, Lib.atoiAll (s.extract 0 (1 + n)).data.toList = .ok v
    · obtain ⟨v, hv⟩ := hv
      have hvb := Lib.atoiAll_bounds hv
      have HC1 := Lib.hid (show cutL s.data.toList = if Lib.itoa v = (s.extract 0 (1 + n)).data.toList then some (⟨2, ⟨#[]⟩, v⟩, 1 + n) else none by rw [HC.out, hv])
      refine (vatoi_ok _ hx v hv _).mono ?_
      rintro e w2 ⟨rfl, hb2⟩
      have R2 := Lib.hid (R0.out.below hb2)
      have B2 := Lib.hid (below_then B0.out hb2)
      have HI := Lib.hid (fun (W : World) (h : Below w.heap.size w W) => vitoa v hvb.1 hvb.2 W (HE.out W h).pow)
      clear hb2 hv hvb HC
      by_cases heq : numS v = s.extract 0 (1 + n)
      · have es := str_eq heq
        have es2 : ((numS v).toList != (s.extract 0 (1 + n)).toList) = false := by rw [bne, es]; rfl
        have HR2 := Lib.hid (show cutL s.data.toList = some (⟨2, ⟨#[]⟩, v⟩, 1 + n) by rw [HC1.out, if_pos (by rw [← heq]; simp [numS])])
        clear heq HC1
        go_wp2_with fail
        go_region_with (go_at_call 37; refine (HI.out _ ?_).mono ?_; exact B2.out.drew; rintro e w5 ⟨rfl, hb5⟩)
        all_goals
          have R5 := Lib.hid ((R2.out.drewN 1).below hb5)
          have B5 := Lib.hid (below_then B2.out.drew hb5)
          clear hb5 R2 B2
          go_wp2_with ((with_reducible refine store_blk ?_ 100 (.tmp 2) (.tmp 54) ?_ R5.out (tkC ⟨2, ⟨#[]⟩, v⟩) ?_ ?_ ?_ ?_ ?_ ?_); (iterate 4 rfl); (exact tk_sz ⟨2, ⟨#[]⟩, v⟩); rfl; (simp [Value.oneCell']))
          refine bodyPost_ret (tk_ret2 (fn := Tryz.f65) rfl _ _ w.heap.size ⟨2, ⟨#[]⟩, v⟩ rfl (Blk.row R5.out _)) rfl ?_
          rw [HR2.out]
          exact ⟨rfl, below_row B5.out (Nat.le_refl _) _⟩
      · have es := str_ne heq
        have es2 : ((numS v).toList != (s.extract 0 (1 + n)).toList) = true := by rw [bne, es]; rfl
        have HR2 := Lib.hid (show cutL s.data.toList = none by rw [HC1.out, if_neg (fun h => heq (bytes_ext (by rw [← h]; simp [numS])))])
        clear heq HC1
        go_wp2_with fail
        go_region_with (go_at_call 37; refine (HI.out _ ?_).mono ?_; exact B2.out.drew; rintro e w5 ⟨rfl, hb5⟩)
        all_goals
          have B5 := Lib.hid (below_then B2.out.drew hb5)
          clear hb5 R2 B2
          go_wp2_with fail
          refine (vfail _).mono ?_
          rintro e w6 ⟨rfl, rfl⟩
          have HP : CPost (cutL s.data.toList) w (.panicked [{ v := feV, recovered := false }]) w6 := by
            rw [HR2.out]
            exact ⟨rfl, B5.out⟩
          exact ⟨rfl, HP⟩
    · have HR2 := Lib.hid (show cutL s.data.toList = none by
        rw [HC.out]
        cases ha : Lib.atoiAll (s.extract 0 (1 + n)).data.toList with
        | ok v => exact absurd ⟨v, ha⟩ hv
        | _ => rfl)
      refine (vatoi_bad _ hx (fun v h => hv ⟨v, h⟩) _ (HE.out _ B0.out)).mono ?_
      rintro e w2 ⟨v, N, rfl, hb2⟩
      have B2 := Lib.hid (below_then B0.out hb2)
      clear hb2 hv HC
      go_wp2_with fail
      go_quiet (fail)
      go_wp2_with fail
      refine (vfail _).mono ?_
      rintro e w6 ⟨rfl, rfl⟩
      have HP : ∀ W, Below w.heap.size w W → CPost (cutL s.data.toList) w (.panicked [{ v := feV, recovered := false }]) W := fun W h => by
        rw [HR2.out]
        exact ⟨rfl, h⟩
      exact ⟨rfl, HP _ (below_drewN B2.out _)⟩
end Go.Proofs.YtpldopoeopjcoaaGreatDoor
/- cut of package expression's parser: texts and signs. -/
namespace Go.Proofs.YtpldopoeopjcoaaGreatDoor
open Go.RowKit
attribute [local irreducible] cutL runL nma nmd dig38 inTx
theorem extE2 (s : ByteArray) (n : Nat) : s.extract 1 (1 + n) = ⟨((s.data.toList.drop 1).take n).toArray⟩ := bytes_ext (by rw [Lib.extract_data]; simp)
set_option maxRecDepth 100000 in
set_option maxHeartbeats 8000000 in
theorem vcut_text (s : ByteArray) (h0 : 0 < s.size) (hs : s.size ≤ 1000000) (w : World) (hc : nma s[0] = false) (hd : (dig38 s[0] || decide (s[0].toNat = 45)) = false) (hq : s[0].toNat = 34) :
    Calls Tryz.prog 65 #[.string s] w (CPost (cutL s.data.toList) w) := by
  have HL := Lib.hid (vletter s[0])
  have HD := Lib.hid (vdigit38 s[0])
  have HR := Lib.hid (fun W => vrun_inText (s.extract 1 s.size) (by rw [ByteArray.size_extract]; omega) W)
  have HN := Lib.hid (show 1 + runL inTx (s.data.toList.drop 1) ≤ s.size by have := runL_le inTx (s.data.toList.drop 1); rw [List.length_drop, bszE] at this; omega)
  have HC := Lib.hid (show cutL s.data.toList = if s.data.toList[1 + runL inTx (s.data.toList.drop 1)]? = some 34 then some (⟨3, s.extract 1 (1 + runL inTx (s.data.toList.drop 1)), 0⟩, 1 + runL inTx (s.data.toList.drop 1) + 1) else none by
    rw [extE2]
    have e := s_cons s h0
    generalize s.data.toList = l at *
    generalize l.drop 1 = r at *
    rw [e, cutL_cons, if_neg (by rw [hc]; exact Bool.false_ne_true), if_neg (by rw [hd]; exact Bool.false_ne_true), if_pos hq])
  rw [extE1] at HR
  generalize runL inTx (s.data.toList.drop 1) = n at *
  have R0 := Lib.hid (Blk.new w tkZ 100)
  have B0 := Lib.hid ((Below.refl w.heap.size w).alloc (Nat.le_refl _) (.cells tkZ 100))
  have hn : 1 + (n : Int) ≤ (s.size : Int) := by have := HN.out; omega
  have hn2 : 1 + n ≤ s.size := HN.out
  have hn4 : 1 + (n : Int) ≤ 1000000 := by omega
  have hz : (0 : Int) < (s.size : Int) := by omega
  have hz1 : (1 : Int) ≤ (s.size : Int) := by omega
  have hz2 : (1 : Int) ≤ 1 + (n : Int) := by omega
  have q2 : ((s[0].toNat : Int) == 45) = false := by rw [hq]; rfl
  have q3 : ((s[0].toNat : Int) == 34) = true := by rw [hq]; rfl
  have hd2 : dig38 s[0] = false := by
    rw [Bool.or_eq_false_iff] at hd
    exact hd.1
  clear hd hq
  go_enter Tryz.func65, Tryz.ntmps65
  go_wp2_with fail
  refine (HL.out _).mono ?_
  rintro e w1 ⟨rfl, rfl⟩
  rw [hc]
  go_wp2_with fail
  refine (HD.out _).mono ?_
  rintro e w1 ⟨rfl, rfl⟩
  rw [hd2]
  go_wp2_with fail
  refine (HR.out _).mono ?_
  rintro e w1 ⟨rfl, rfl⟩
  by_cases hE : 1 + n = s.size
  · have HR2 := Lib.hid (show cutL s.data.toList = none by rw [HC.out, if_neg]; rw [List.getElem?_eq_none (by rw [bszE]; omega)]; intro h; cases h)
    have b1 : (1 + (n : Int) == (s.size : Int)) = true := by rw [beq_iff_eq]; omega
    clear hE
    go_wp2_with fail
    refine (vfail _).mono ?_
    rintro e w6 ⟨rfl, rfl⟩
    have HP : ∀ W, Below w.heap.size w W → CPost (cutL s.data.toList) w (.panicked [{ v := feV, recovered := false }]) W := fun W h => by
      rw [HR2.out]
      exact ⟨rfl, h⟩
    exact ⟨rfl, HP _ B0.out⟩
  · have hlt : 1 + n < s.size := by omega
    have hltI : 1 + (n : Int) < (s.size : Int) := by omega
    have b1 : (1 + (n : Int) == (s.size : Int)) = false := by rw [beq_eq_false_iff_ne]; omega
    have HG := Lib.hid (show s.data.toList[1 + n]? = some s[1 + n] from List.getElem?_eq_getElem (by rw [bszE]; exact hlt))
    clear hE
    by_cases h34 : s[1 + n].toNat = 34
    · have HR2 := Lib.hid (show cutL s.data.toList = some (⟨3, s.extract 1 (1 + n), 0⟩, 1 + n + 1) by rw [HC.out, if_pos]; rw [HG.out]; exact congrArg some (UInt8.toNat.inj (by rw [h34]; rfl)))
      have b2 : ((s[1 + n].toNat : Int) != 34) = false := by rw [h34]; rfl
      clear h34
      go_wp2_with ((with_reducible refine store_blk ?_ 100 (.tmp 2) (.tmp 78) ?_ R0.out (tkC ⟨3, s.extract 1 (1 + n), 0⟩) ?_ ?_ ?_ ?_ ?_ ?_); (iterate 4 rfl); (exact tk_sz ⟨3, s.extract 1 (1 + n), 0⟩); rfl; (simp [Value.oneCell']))
      refine bodyPost_ret (tk_ret2 (fn := Tryz.f65) rfl _ _ w.heap.size ⟨3, s.extract 1 (1 + n), 0⟩ rfl (Blk.row R0.out _)) rfl ?_
      rw [HR2.out]
      exact ⟨rfl, below_row B0.out (Nat.le_refl _) _⟩
    · have HR2 := Lib.hid (show cutL s.data.toList = none by rw [HC.out, if_neg]; rw [HG.out]; intro h; exact h34 (by injection h with h; rw [h]; rfl))
      have b2 : ((s[1 + n].toNat : Int) != 34) = true := by simp; omega
      clear h34
      go_wp2_with fail
      refine (vfail _).mono ?_
      rintro e w6 ⟨rfl, rfl⟩
      have HP : ∀ W, Below w.heap.size w W → CPost (cutL s.data.toList) w (.panicked [{ v := feV, recovered := false }]) W := fun W h => by
        rw [HR2.out]
        exact ⟨rfl, h⟩
      exact ⟨rfl, HP _ B0.out⟩
end Go.Proofs.YtpldopoeopjcoaaGreatDoor
