/- Texts of one proof, laid together. -/
import Derived.Test.YtbbihfafkpniiaaGreatDoorC11
import Derived.Laws.BitsAllLaws
import Derived.Test.YtbbihfafkpniiaaGreatDoorC10
/- The source of numbers of package kauditmake: Range, Pick, Word. -/
namespace Go.Proofs.YtbbihfafkpniiaaGreatDoor
open Go.RowKit
/-- A row of strings of at most m bytes; a row of numbers from lo to hi. -/
def strsLe (cs : Array Value) (m : Nat) : Bool := cs.toList.all fun | .string x => decide (x.size ≤ m) | _ => false
def intsIn (cs : Array Value) (lo hi : Int) : Bool := cs.toList.all fun | .int .i64 x => decide (lo ≤ x) && decide (x ≤ hi) | _ => false
theorem strsLe_at {cs : Array Value} {m : Nat} (h : strsLe cs m = true) (k : Nat) (hk : k < cs.size) : ∃ x : ByteArray, cs[k]? = some (.string x) ∧ x.size ≤ m := by
  have hm : cs[k] ∈ cs.toList := Array.mem_toList_iff.2 (Array.getElem_mem hk)
  have := List.all_eq_true.1 h _ hm
  split at this
  · rename_i x e
    exact ⟨x, by rw [Array.getElem?_eq_getElem hk, e], by simpa using this⟩
  · cases this
theorem intsIn_at {cs : Array Value} {lo hi : Int} (h : intsIn cs lo hi = true) (k : Nat) (hk : k < cs.size) : ∃ x : Int, cs[k]? = some (.int .i64 x) ∧ lo ≤ x ∧ x ≤ hi := by
  have hm : cs[k] ∈ cs.toList := Array.mem_toList_iff.2 (Array.getElem_mem hk)
  have := List.all_eq_true.1 h _ hm
  split at this
  · rename_i x e
    simp at this
    exact ⟨x, by rw [Array.getElem?_eq_getElem hk, e], this.1, this.2⟩
  · cases this
def SPost (w : World) (base g : Nat) (b : Int) (m : Nat) (e : Ending) (w' : World) : Prop := ∃ x : ByteArray, e = .returned (.string x) ∧ x.size ≤ m ∧ SrcOk w' base g b ∧ w.grownBy w' (some g)
def IPost (w : World) (base g : Nat) (b lo hi : Int) (e : Ending) (w' : World) : Prop := ∃ x : Int, e = .returned (.int .i64 x) ∧ lo ≤ x ∧ x ≤ hi ∧ SrcOk w' base g b ∧ w.grownBy w' (some g)
theorem only_cell {w w' : World} {g B : Nat} {cs : Array Value} {t : TypeId} {fr : Nat × Nat} (hg : w.grownBy w' (some g)) (hB : w.heap[B]? = some (.cells cs t fr)) (hne : B ≠ g) (k : Nat) : w'.cell? ⟨B, k, none⟩ = cs[k]? :=
  cell_of_row w' B k cs t fr ((hg.block B (Array.getElem?_eq_some_iff.1 hB).1 (fun e => hne (by injection e))).trans hB)
set_option maxHeartbeats 400000 in
theorem src_range (w : World) (base g : Nat) (b lo hi : Int) (h : SrcOk w base g b) (hb : b ≤ 1000000000000000) (h1 : lo ≤ hi) (h2 : -1000000 ≤ lo) (h3 : hi ≤ 1000000) :
    Calls Tryz.prog 19 #[.pointer (some ⟨g, 0, none⟩), .int .i64 lo, .int .i64 hi] w (IPost w base g (b + 1) lo hi) := by
  have H := Lib.hid h
  have HB := Lib.hid hb
  clear h hb
  go_enter Tryz.func19, Tryz.ntmps19
  go_wp2_with fail
  refine (src_n _ base g b _ H.out HB.out (by omega) (by omega)).mono ?_
  rintro e w1 ⟨x, rfl, hx0, hx1, hs, hg⟩
  have HS := Lib.hid hs
  clear hs
  go_wp2_with fail
  go_ret
  exact ⟨_, rfl, by omega, by omega, HS.out, hg⟩
set_option maxHeartbeats 400000 in
theorem src_word (w : World) (base g B : Nat) (b : Int) (n m : Nat) (cs : Array Value) (t : TypeId) (fr : Nat × Nat) (h : SrcOk w base g b) (hb : b ≤ 1000000000000000) (hB : w.heap[B]? = some (.cells cs t fr)) (hne : B ≠ g)
    (hn : cs.size = n) (h1 : 1 ≤ n) (h2 : n ≤ 1000) (hall : strsLe cs m = true) :
    Calls Tryz.prog 18 #[.pointer (some ⟨g, 0, none⟩), .slice (some ⟨B, 0, none⟩) n n] w (SPost w base g (b + 1) m) := by
  have H := Lib.hid h
  have HB := Lib.hid hb
  have HBB := Lib.hid hB
  have HN := Lib.hid hn
  clear h hb hB hn
  go_enter Tryz.func18, Tryz.ntmps18
  go_wp2_with fail
  refine (src_n _ base g b _ H.out HB.out (by omega) (by omega)).mono ?_
  rintro e w1 ⟨x, rfl, hx0, hx1, hs, hg⟩
  have HS := Lib.hid hs
  clear hs
  obtain ⟨k, rfl⟩ := Int.eq_ofNat_of_zero_le hx0
  have hk : k < n := by omega
  obtain ⟨y, hy, hym⟩ := strsLe_at hall k (by rw [HN.out]; exact hk)
  have hc := (only_cell hg HBB.out hne k).trans hy
  clear hy
  go_wp2_with fail
  go_ret
  exact ⟨_, rfl, hym, HS.out, hg⟩
set_option maxHeartbeats 400000 in
theorem src_pick (w : World) (base g B : Nat) (b : Int) (n : Nat) (lo hi : Int) (cs : Array Value) (t : TypeId) (fr : Nat × Nat) (h : SrcOk w base g b) (hb : b ≤ 1000000000000000) (hB : w.heap[B]? = some (.cells cs t fr)) (hne : B ≠ g)
    (hn : cs.size = n) (h1 : 1 ≤ n) (h2 : n ≤ 1000) (hall : intsIn cs lo hi = true) :
    Calls Tryz.prog 16 #[.pointer (some ⟨g, 0, none⟩), .slice (some ⟨B, 0, none⟩) n n] w (IPost w base g (b + 1) lo hi) := by
  have H := Lib.hid h
  have HB := Lib.hid hb
  have HBB := Lib.hid hB
  have HN := Lib.hid hn
  clear h hb hB hn
  go_enter Tryz.func16, Tryz.ntmps16
  go_wp2_with fail
  refine (src_n _ base g b _ H.out HB.out (by omega) (by omega)).mono ?_
  rintro e w1 ⟨x, rfl, hx0, hx1, hs, hg⟩
  have HS := Lib.hid hs
  clear hs
  obtain ⟨k, rfl⟩ := Int.eq_ofNat_of_zero_le hx0
  have hk : k < n := by omega
  obtain ⟨y, hy, hy0, hy1⟩ := intsIn_at hall k (by rw [HN.out]; exact hk)
  have hc := (only_cell hg HBB.out hne k).trans hy
  clear hy
  go_wp2_with fail
  go_ret
  exact ⟨_, rfl, hy0, hy1, HS.out, hg⟩
end Go.Proofs.YtbbihfafkpniiaaGreatDoor
/- The source of numbers of package kauditmake: Text, Name, Path. -/
namespace Go.Proofs.YtbbihfafkpniiaaGreatDoor
open Go.RowKit
theorem SPost.more {w w' : World} {base g : Nat} {b b' : Int} {m m' : Nat} {e : Ending} (h : SPost w base g b m e w') (hb : b ≤ b') (hm : m ≤ m') : SPost w base g b' m' e w' := by
  obtain ⟨x, h1, h2, h3, h4⟩ := h
  exact ⟨x, h1, by omega, h3.more hb, h4⟩
end Go.Proofs.YtbbihfafkpniiaaGreatDoor
/- The source of numbers of package kauditmake: Mask, Pick2. -/
namespace Go.Proofs.YtbbihfafkpniiaaGreatDoor
open Go.RowKit
def MPost (w : World) (base g : Nat) (b : Int) (e : Ending) (w' : World) : Prop := ∃ k : Nat, e = .returned (.int .u64 (k : Int)) ∧ k < 18446744073709551616 ∧ SrcOk w' base g b ∧ w.grownBy w' (some g)
theorem wrap_nat (e : Int) : ∃ k : Nat, k < 18446744073709551616 ∧ IntKind.u64.wrap e = (k : Int) := by
  rw [IntKind.wrap_u64]
  have h0 : 0 ≤ e % 18446744073709551616 := Int.emod_nonneg _ (by omega)
  have h1 : e % 18446744073709551616 < 18446744073709551616 := Int.emod_lt_of_pos _ (by omega)
  obtain ⟨k, hk⟩ := Int.eq_ofNat_of_zero_le h0
  exact ⟨k, by omega, hk⟩
theorem or_any {m : Nat} (hm : m < 18446744073709551616) (e : Int) : ∃ k : Nat, k < 18446744073709551616 ∧ bits .or .u64 (m : Int) (IntKind.u64.wrap e) = (k : Int) := by
  obtain ⟨q, hq, eq⟩ := wrap_nat e
  rw [eq, u64_or_nat m q (by omega) (by omega)]
  exact ⟨m ||| q, Nat.or_lt_two_pow (n := 64) hm hq, rfl⟩
set_option maxHeartbeats 1000000 in
theorem src_mask (w : World) (base g : Nat) (b : Int) (h : SrcOk w base g b) (hb : b ≤ 100000000000000) :
    Calls Tryz.prog 31 #[.pointer (some ⟨g, 0, none⟩)] w (MPost w base g (b + 40)) := by
  have H := Lib.hid h
  have HB := Lib.hid hb
  clear h hb
  go_enter Tryz.func31, Tryz.ntmps31
  go_wp2_with fail
  refine (src_n _ base g b 6 H.out (by have := HB.out; omega) (by omega) (by omega)).mono ?_
  rintro e w1 ⟨x, rfl, hx0, hx1, hs, hg⟩
  have HS := Lib.hid hs
  have HG := Lib.hid hg
  clear hs hg
  by_cases h0 : x = 0
  · have t0 : (x == 0) = true := by simpa using h0
    clear h0
    go_wp2_with fail
    go_ret
    exact ⟨4294967295, rfl, by omega, HS.out.more (by omega), HG.out⟩
  · have t0 : (x == 0) = false := by simpa using h0
    by_cases h1 : x = 1
    · have t1 : (x == 1) = true := by simpa using h1
      clear h0 h1
      go_wp2_with fail
      refine (src_n _ base g (b + 1) 32 HS.out (by have := HB.out; omega) (by omega) (by omega)).mono ?_
      rintro e w2 ⟨y, rfl, hy0, hy1, hs, hg⟩
      have HS2 := Lib.hid hs
      have HG2 := Lib.hid (HG.out.trans hg)
      clear hs hg
      go_wp2_with fail
      go_ret
      obtain ⟨k, hk, he⟩ := wrap_nat (2 ^ y.toNat)
      exact ⟨k, congrArg (fun z => Ending.returned (.int .u64 z)) he, hk, HS2.out.more (by omega), HG2.out⟩
    · have t1 : (x == 1) = false := by simpa using h1
      clear h0 h1
      go_wp2_with fail
      go_loopw [3, 4] (fun v i wr => ∃ (m k : Nat), v = .int .u64 (m : Int) ∧ i = .int .i64 (k : Int) ∧ k ≤ 32 ∧ m < 18446744073709551616 ∧ w.grownBy wr (some g) ∧ Hid (SrcOk wr base g (b + 1 + k))) (fun _ i _ => 32 - (intOf i).toNat)
      case atStart => exact ⟨0, 0, rfl, rfl, by omega, by omega, HG.out, HS.out.more (by omega)⟩
      case round =>
        obtain ⟨m, k, rfl, rfl, hk, hm, hgr, hsr⟩ := hrel
        by_cases hlt : k < 32
        · have k0 : (0 : Int) ≤ (k : Int) := by omega
          have k1 : (k : Int) < 32 := by omega
          go_wp2_with fail
          refine (src_n _ base g (b + 1 + k) 2 hsr.out (by have := HB.out; omega) (by omega) (by omega)).mono ?_
          rintro e w2 ⟨y, rfl, hy0, hy1, hs, hg⟩
          have HS2 := Lib.hid hs
          have HG2 := Lib.hid (hgr.trans hg)
          clear hs hg
          go_wp2_with fail
          go_roundw
          case rel =>
            obtain ⟨q, hq, he⟩ := or_any hm _
            exact ⟨q, k + 1, congrArg (fun z => Value.int .u64 z) he, by go_num, by omega, hq, HG2.out, HS2.out.more (by omega)⟩
          case measure => simp [intOf]; omega
        · obtain rfl : k = 32 := by omega
          go_wp2_with fail
          go_ret
          exact ⟨m, rfl, hm, hsr.out.more (by omega), hgr⟩
set_option maxHeartbeats 400000 in
theorem src_pick2 (w : World) (base g : Nat) (b : Int) (m n : Nat) (hm : m < 18446744073709551616) (hn : n < 18446744073709551616) (h : SrcOk w base g b) (hb : b ≤ 100000000000000) :
    Calls Tryz.prog 17 #[.pointer (some ⟨g, 0, none⟩), .int .u64 (m : Int), .int .u64 (n : Int)] w (MPost w base g (b + 1)) := by
  have H := Lib.hid h
  have HB := Lib.hid hb
  clear h hb
  go_enter Tryz.func17, Tryz.ntmps17
  go_wp2_with fail
  refine (src_n _ base g b 2 H.out (by have := HB.out; omega) (by omega) (by omega)).mono ?_
  rintro e w1 ⟨x, rfl, hx0, hx1, hs, hg⟩
  have HS := Lib.hid hs
  have HG := Lib.hid hg
  clear hs hg
  by_cases h0 : x = 0
  · have t0 : (x == 0) = true := by simpa using h0
    clear h0
    go_wp2_with fail
    go_ret
    exact ⟨m, rfl, hm, HS.out, HG.out⟩
  · have t0 : (x == 0) = false := by simpa using h0
    clear h0
    go_wp2_with fail
    go_ret
    exact ⟨n, rfl, hn, HS.out, HG.out⟩
end Go.Proofs.YtbbihfafkpniiaaGreatDoor
/- holds of the program; number, has, one of the reference. -/
namespace Go.Proofs.YtbbihfafkpniiaaGreatDoor
open Go.RowKit
attribute [local irreducible] ctxC itemC textB
theorem holdsP_text {c : Ctx} {fd op nu : Int} {tx : ByteArray} {ot : Int} {i : Itm} (h : textB fd = true) : holdsP c fd op nu tx ot i = (((if fd = 14 then c.comm else c.exe).toList == tx.toList) == decide (op = 1)) := by
  unfold holdsP holdsF; rw [if_neg (by rw [h]; simp), if_pos h]
theorem holdsP_no {c : Ctx} {fd op nu : Int} {tx : ByteArray} {ot : Int} {i : Itm} (h : textB fd = false) (k : hasF c fd = false ∨ (ot ≠ 0 ∧ hasF c ot = false)) : holdsP c fd op nu tx ot i = false := by
  unfold holdsP; rw [if_pos ⟨h, k⟩]
theorem holdsP_num {c : Ctx} {fd op nu : Int} {tx : ByteArray} {ot : Int} {i : Itm} (h : textB fd = false) (h1 : hasF c fd = true) (h2 : ot = 0 ∨ hasF c ot = true) : holdsP c fd op nu tx ot i = cmpF op (numP c i fd) (if ot = 0 then nu else numP c i ot) := by
  unfold holdsP holdsF
  rw [if_neg (by rintro ⟨_, k | k⟩; rw [h1] at k; cases k; rcases h2 with h2 | h2; exact k.1 h2; rw [h2] at k; cases k.2), if_neg (by rw [h]; decide), numP_yes h1]
  by_cases h0 : ot = 0
  · rw [if_pos h0, if_pos h0]
  · rw [if_neg h0, if_neg h0, numP_yes (h2.resolve_left h0)]
theorem deq (a b : Int) : decide (a = b) = (a == b) := by by_cases h : a = b <;> simp [h]
theorem textB_vals {fd : Int} (h : textB fd = true) : fd = 13 ∨ fd = 14 := by unfold textB at h; simpa using h
theorem textB_no {fd : Int} (h : textB fd = false) : fd ≠ 13 ∧ fd ≠ 14 := by unfold textB at h; simpa using h
attribute [local irreducible] hasF numP cmpF
end Go.Proofs.YtbbihfafkpniiaaGreatDoor
/- Eval of the program returns evalP. -/
namespace Go.Proofs.YtbbihfafkpniiaaGreatDoor
open Go.RowKit
/-- The slice at A reads as the items L; it lies below block B. -/
def ItemsAt (w : World) (B : Nat) (A : Option Addr) (L : List (Itm × IRest)) : Prop := ∀ k (hk : k < L.length), ∃ ad : Addr, A = some ad ∧ ad.block < B ∧ ∀ j, j < 13 → w.cell? ((ad.add (k * 13)).add j) = (itemC (L[k]'hk).1 (L[k]'hk).2)[j]?
theorem add_block (a : Addr) (n : Nat) : (a.add n).block = a.block := by unfold Addr.add; split <;> rfl
theorem ItemsAt.keep {w w' : World} {B B' : Nat} {A : Option Addr} {L : List (Itm × IRest)} (h : ItemsAt w B A L) (hb : Below B' w w') (hB : B ≤ B') : ItemsAt w' B A L := fun k hk => by
  obtain ⟨ad, e, hl, hc⟩ := h k hk
  exact ⟨ad, e, hl, fun j hj => (hb.cell (by rw [add_block, add_block]; omega)).trans (hc j hj)⟩
theorem ItemsAt.more {w : World} {B B' : Nat} {A : Option Addr} {L : List (Itm × IRest)} (h : ItemsAt w B A L) (hB : B ≤ B') : ItemsAt w B' A L := fun k hk => by
  obtain ⟨ad, e, hl, hc⟩ := h k hk
  exact ⟨ad, e, by omega, hc⟩
theorem ItemsAt.nil {w : World} {B : Nat} {A : Option Addr} : ItemsAt w B A [] := fun k hk => by simp at hk
theorem item_cells {w : World} {a : Addr} {i : Itm} {r : IRest} (h : ∀ j, j < 13 → w.cell? (a.add j) = (itemC i r)[j]?) :
    w.cell? a = some (.string r.gv) ∧ w.cell? ⟨a.block, a.off + 1, none⟩ = some (.string r.pa) ∧ w.cell? ⟨a.block, a.off + 2, none⟩ = some (.int .i64 r.dd) ∧ w.cell? ⟨a.block, a.off + 3, none⟩ = some (.int .i64 r.di) ∧ w.cell? ⟨a.block, a.off + 4, none⟩ = some (.string r.nm) ∧ w.cell? ⟨a.block, a.off + 5, none⟩ = some (.int .i64 i.dev) ∧ w.cell? ⟨a.block, a.off + 6, none⟩ = some (.int .i64 i.ino) ∧ w.cell? ⟨a.block, a.off + 7, none⟩ = some (.int .i64 r.ro) ∧ w.cell? ⟨a.block, a.off + 8, none⟩ = some (.int .i64 i.kind) ∧ w.cell? ⟨a.block, a.off + 9, none⟩ = some (.int .i64 r.mo) ∧ w.cell? ⟨a.block, a.off + 10, none⟩ = some (.int .i64 i.uid) ∧ w.cell? ⟨a.block, a.off + 11, none⟩ = some (.int .i64 i.gid) ∧ w.cell? ⟨a.block, a.off + 12, none⟩ = some (.int .i64 r.pe) :=
  ⟨h 0 (by omega), h 1 (by omega), h 2 (by omega), h 3 (by omega), h 4 (by omega), h 5 (by omega), h 6 (by omega), h 7 (by omega), h 8 (by omega), h 9 (by omega), h 10 (by omega), h 11 (by omega), h 12 (by omega)⟩
/-- The lists from 1 to k that permit the test. -/
def anyK (fd op nu : Int) (tx : ByteArray) (ot : Int) (k : Nat) : Bool := (List.range k).any fun j => checkF fd op nu tx ot ((j : Int) + 1) == 0
theorem anyK_succ (fd op nu : Int) (tx : ByteArray) (ot : Int) (k : Nat) : anyK fd op nu tx ot (k + 1) = (anyK fd op nu tx ot k || (checkF fd op nu tx ot ((k : Int) + 1) == 0)) := by
  unfold anyK; rw [List.range_succ, List.any_append]; simp
theorem anyK_five (fd op nu : Int) (tx : ByteArray) (ot : Int) : anyK fd op nu tx ot 5 = soundB fd op nu tx ot := by
  unfold anyK soundB
  simp [List.range_succ, deq, Bool.or_assoc]
def irZ : IRest := ⟨⟨#[]⟩, ⟨#[]⟩, 0, 0, ⟨#[]⟩, 0, 0, 0⟩
theorem sound_ranges {fd op nu : Int} {tx : ByteArray} {ot : Int} (h : soundB fd op nu tx ot = true) : (1 ≤ fd ∧ fd ≤ 22) ∧ (1 ≤ op ∧ op ≤ 8) ∧ (ot = 0 ∨ ((1 ≤ ot ∧ ot ≤ 22) ∧ ot ≠ 13 ∧ ot ≠ 14)) := by
  obtain ⟨l, hl⟩ := sound_some h
  obtain ⟨c1, c2, c3, c4, c5, c6, c7⟩ := checkF_zero hl
  refine ⟨allow_range c1, c3, ?_⟩
  rcases c2 with c2 | c2
  · exact .inl c2
  · have := textB_no (owner_text c2.2.2)
    exact .inr ⟨allow_range c2.1, this.1, this.2⟩
theorem any_no {L : List (Itm × IRest)} {p : Itm → Bool} (h : ∀ j (hj : j < L.length), p (L[j]'hj).1 = false) : (L.map (·.1)).any p = false := by
  rw [List.any_eq_false]
  intro x hx
  obtain ⟨y, hy, rfl⟩ := List.mem_map.1 hx
  obtain ⟨j, hj, rfl⟩ := List.getElem_of_mem hy
  rw [h j hj]; decide
theorem any_yes {L : List (Itm × IRest)} {p : Itm → Bool} {j : Nat} (hj : j < L.length) (h : p (L[j]'hj).1 = true) : (L.map (·.1)).any p = true := by
  rw [List.any_eq_true]
  exact ⟨_, List.mem_map.2 ⟨_, List.getElem_mem hj, rfl⟩, h⟩
theorem load_blk_g {P : Program} {ops : Array Oper} {rest : List Oper} {o : Oper} {a : Act} {w : World} {Q : Exit → Act → World → Prop} (hgd : Region.wanted o (yielded ops a.tmps) = true) (ty : TypeId) (x : Operand) (ho : o.op = .load ty x)
    {g : Nat} {t : TypeId} {cs : Array Value} (hg : Blk w g t cs) (hx : a.eval x = .pointer (some ⟨g, 0, none⟩)) (d : TypeDesc)
    (hu : P.underlying ty = some d) (hd : (match d with | .struct _ | .array _ _ => true | _ => false) = true) (hi : (P.info? ty).map (·.size) = some cs.size)
    (h : wpList P ops Q rest (a.put o.dst (.agg cs)) w) : wpList P ops Q (o :: rest) a w :=
  wpList_step fun K hK => by simp only [hgd, if_true]; exact wp_load_row ty x ho g hx t cs (0, 0) d hg hu hd hi (hK _ _ h)
attribute [local irreducible] ctxC textB itemB checkF anyK soundB holdsP evalP
end Go.Proofs.YtbbihfafkpniiaaGreatDoor
