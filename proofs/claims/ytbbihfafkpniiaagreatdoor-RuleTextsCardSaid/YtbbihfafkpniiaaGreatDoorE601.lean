/- Texts of one proof, laid together. -/
import Derived.Test.YtbbihfafkpniiaaGreatDoorD03
import Derived.Test.YtbbihfafkpniiaaGreatDoorV02
import Derived.Test.YtbbihfafkpniiaaGreatDoorC20
import Derived.Test.YtbbihfafkpniiaaGreatDoorE504
import Derived.Test.YtbbihfafkpniiaaGreatDoorE301
import Derived.Deep.RegionHeld
import Derived.Laws.IdiomStrings
import Derived.Test.YtbbihfafkpniiaaGreatDoorC26
import Derived.Test.YtbbihfafkpniiaaGreatDoorC02
/- How long the texts of rules are that are made: plain facts. -/
namespace Go.Proofs.YtbbihfafkpniiaaGreatDoor
def szW (ts : List ByteArray) : Nat := (ts.map fun t => t.size + 1).sum
theorem szW_app (a b : List ByteArray) : szW (a ++ b) = szW a + szW b := by unfold szW; rw [List.map_append, List.sum_append]
theorem szW_cons (a : ByteArray) (b : List ByteArray) : szW (a :: b) = a.size + 1 + szW b := rfl
theorem szW_nil : szW [] = 0 := rfl
theorem catW_szW : ∀ (ts : List ByteArray) (s : ByteArray), (catW s ts).size = s.size + szW ts
  | [], s => by simp [catW, szW]
  | t :: ts, s => by
    rw [catW_cons, catW_szW ts, szW_cons, ByteArray.size_append, ByteArray.size_append]
    show s.size + (1 + t.size) + szW ts = _
    omega
theorem maskS_le (m : Nat) : (maskS m).size ≤ 192 := by
  unfold maskS
  split
  · show 3 ≤ 192; omega
  · split
    · show 4 ≤ 192; omega
    · show (Lib.join ((grp (memF m 0)).map rtext) [44]).toArray.size ≤ 192
      rw [List.size_toArray]
      have hG : ∀ p ∈ grp (memF m 0), p.1 < 32 ∧ p.2 < 32 := grp_small fun x hx => (memF_ge m 0 x hx).2
      have := join_len ((grp (memF m 0)).map rtext) (fun x hx => by obtain ⟨p, hp, rfl⟩ := List.mem_map.1 hx; exact rtext_len p (hG p hp))
      have hl : (grp (memF m 0)).length ≤ (memF m 0).length := grp_len _
      have hm := memF_len m 0
      rw [List.length_map] at this
      omega
theorem hexL_len (l : List UInt8) : (hexL l).length = 2 * l.length := by
  induction l with
  | nil => rfl
  | cons c l ih =>
    have e : hexL (c :: l) = hex2 c ++ hexL l := rfl
    rw [e, List.length_append, ih]
    simp [hex2]; omega
theorem quote_sz (t : ByteArray) : (quoteS t).size ≤ 2 * t.size + 2 := by
  unfold quoteS
  split
  · show 0 ≤ _; omega
  · show (quoteL t.data.toList).toArray.size ≤ _
    rw [List.size_toArray]
    unfold quoteL
    split
    · simp [bsz']; omega
    · rw [List.length_cons, hexL_len, bsz']; omega
theorem tst_sz {t : Tst} (h : (-13 ≤ t.nu ∧ t.nu ≤ 4294967295) ∧ t.tx.size ≤ 5) : t.txt.size ≤ 30 := by
  have h1 := field_len t.fd.toNat
  have h2 := op_len t.op.toNat
  have h3 := numS_lenF t.nu (by omega) (by omega)
  have h4 := quote_sz t.tx
  have h5 : (valS t.fd t.nu t.tx t.ot).size ≤ 20 := by
    unfold valS
    split
    · have := field_len t.ot.toNat; omega
    · split <;> omega
  unfold Tst.txt testS
  split
  · rw [ByteArray.size_append, ByteArray.size_append]; omega
  · show 0 ≤ 30; omega
theorem perm_sz (n : Int) : (permS n).size ≤ 4 := by
  unfold permS
  show (List.toArray _).size ≤ 4
  rw [List.size_toArray]
  simp only [List.length_append]
  split <;> split <;> split <;> split <;> simp
theorem flag_sz (p : Part) : p.flag.size = 2 := by
  cases p with
  | tst t => unfold Part.flag; simp only []; split <;> rfl
  | fil _ => rfl
  | dir _ => rfl
  | prm _ => rfl
theorem partW_cons (p : Part) (ps : List Part) : partW (p :: ps) = p.flag :: p.txt :: partW ps := rfl
theorem parts_sz : ∀ (ts : List Tst) (_ : ∀ t ∈ ts, t.txt.size ≤ 30) (ps : List Part), szW (partW (ts.map .tst ++ ps)) ≤ 34 * ts.length + szW (partW ps)
  | [], _, ps => by simp
  | t :: ts, h, ps => by
    have ih := parts_sz ts (fun u hu => h u (List.mem_cons_of_mem _ hu)) ps
    have ht := h t List.mem_cons_self
    have e : (t :: ts).map Part.tst ++ ps = .tst t :: (ts.map .tst ++ ps) := rfl
    rw [e, partW_cons, szW_cons, szW_cons, flag_sz]
    have e2 : (Part.tst t).txt = t.txt := rfl
    rw [e2, List.length_cons]
    omega
theorem key_sz {k : ByteArray} (h : k.size ≤ 10) : szW (keyW k) ≤ 26 := by
  have := quote_sz k
  unfold keyW
  split
  · show 0 ≤ 26; omega
  · rw [szW_cons, szW_cons, szW_nil]
    show 2 + 1 + ((quoteS k).size + 1 + 0) ≤ 26
    omega
theorem watch_sz {r : Rul} (h : r.pa.size ≤ 10) : szW (partW (watchP r)) ≤ 44 := by
  have h1 := quote_sz r.pa
  have h2 := perm_sz r.pe
  unfold watchP
  split
  · rw [partW_cons, partW_cons, szW_cons, szW_cons, szW_cons, szW_cons, flag_sz, flag_sz]
    show 2 + 1 + ((pathW ++ quoteS r.pa).size + 1 + (2 + 1 + ((permW ++ permS r.pe).size + 1 + 0))) ≤ 44
    rw [ByteArray.size_append, ByteArray.size_append]
    have e1 : pathW.size = 5 := rfl
    have e2 : permW.size = 5 := rfl
    omega
  · split
    · rw [partW_cons, partW_cons, szW_cons, szW_cons, szW_cons, szW_cons, flag_sz, flag_sz]
      show 2 + 1 + ((dirW ++ quoteS r.pa).size + 1 + (2 + 1 + ((permW ++ permS r.pe).size + 1 + 0))) ≤ 44
      rw [ByteArray.size_append, ByteArray.size_append]
      have e1 : dirW.size = 4 := rfl
      have e2 : permW.size = 5 := rfl
      omega
    · show 0 ≤ 44; omega
theorem text_sz {r : Rul} (h : MkR r) (hl : r.ts.length ≤ 3) : (textR r).size ≤ 400 := by
  have h1 := head_size r
  have h2 := parts_sz r.ts (fun t ht => tst_sz (h.ts t ht)) (watchP r)
  have h3 := watch_sz h.pa
  have h4 := key_sz h.ke
  have h5 : szW (callW r) ≤ 196 := by
    have := maskS_le r.ca
    unfold callW
    split
    · rw [szW_cons, szW_cons, szW_nil]
      show 2 + 1 + ((maskS r.ca).size + 1 + 0) ≤ 196
      omega
    · show 0 ≤ 196; omega
  unfold textR restR partsR
  rw [catW_szW, szW_cons, szW_app, szW_app]
  have e1 : fA.size = 2 := rfl
  omega
theorem hand_sz {r : Rul} (h : MkR r) : (shortT r).size ≤ 400 := by
  have h1 := quote_sz r.pa
  have h2 := perm_sz r.pe
  have h3 := key_sz h.ke
  have h4 := h.pa
  have hf : (flagW r.wa).size = 2 := by unfold flagW; split <;> rfl
  unfold shortT restW
  rw [catW_szW, szW_cons, szW_cons, szW_cons]
  have e1 : fP.size = 2 := rfl
  omega
theorem fmt_sz {r : Rul} (h : MkR r) (hl : r.ts.length ≤ 3) : (fmtR r).size ≤ 400 := by
  unfold fmtR
  split
  · exact text_sz h hl
  · show 0 ≤ 400; omega
theorem shortS_sz {r : Rul} (h : MkR r) : (shortS r).size ≤ 400 := by
  unfold shortS
  split
  · exact hand_sz h
  · show 0 ≤ 400; omega
end Go.Proofs.YtbbihfafkpniiaaGreatDoor
/- The walk of the law RuleTexts. -/
namespace Go.Proofs.YtbbihfafkpniiaaGreatDoor
open Go.RowKit
theorem tx3 {t : ByteArray} {i j k l : Nat} {b : ByteArray} (ht : t.size ≤ 400) (hb : b.size ≤ 10) : (t.extract i j ++ b ++ t.extract k l).size ≤ 1000 := by rw [ByteArray.size_append, ByteArray.size_append, ByteArray.size_extract, ByteArray.size_extract]; omega
theorem tx2 {t : ByteArray} {i j k l : Nat} (ht : t.size ≤ 400) : (t.extract i j ++ t.extract k l).size ≤ 1000 := by rw [ByteArray.size_append, ByteArray.size_extract, ByteArray.size_extract]; omega
theorem tx1 {t : ByteArray} {b : ByteArray} (ht : t.size ≤ 400) (hb : b.size ≤ 10) : (t ++ b).size ≤ 1000 := by rw [ByteArray.size_append]; omega
theorem al_hold {w W : World} {o : Obj} (h : Below w.heap.size w W ∧ w.heap.size ≤ W.heap.size) : Below w.heap.size w (W.alloc o) ∧ w.heap.size ≤ (W.alloc o).heap.size := ⟨h.1.alloc h.2 _, (h.1.alloc h.2 o).size⟩
theorem then_hold {w W W' : World} (h : Below w.heap.size w W ∧ w.heap.size ≤ W.heap.size) (hb : Below W.heap.size W W') : Below w.heap.size w W' ∧ w.heap.size ≤ W'.heap.size := ⟨below_then h.1 hb, (below_then h.1 hb).size⟩
/-- What the law keeps of the texts. -/
structure TxSt (w wr : World) (gt : Nat) (a s : ByteArray) (b : Int) : Prop where
  low : Below w.heap.size w wr
  src : SrcOk wr w.heap.size w.heap.size b
  blk : Blk wr gt 9 #[.string a, .string s]
section
variable {w wr w' : World} {gt gc : Nat} {a s : ByteArray} {b b' : Int} {r : Rul} {tv : Value}
theorem TxSt.below (h : TxSt w wr gt a s b) (hb : Below wr.heap.size wr w') : TxSt w w' gt a s b := ⟨below_then h.low hb, h.src.below hb, Blk.below h.blk hb⟩
theorem TxSt.step (h : TxSt w wr gt a s b) (hg0 : w.heap.size < gt) (hs : SrcOk w' w.heap.size w.heap.size b') (hg : wr.grownBy w' (some w.heap.size)) : TxSt w w' gt a s b' :=
  ⟨below_only h.low hg h.low.size (Nat.le_refl _), hs, Blk.grown h.blk hg (fun e => by injection e with e; omega)⟩
theorem TxSt.more (h : TxSt w wr gt a s b) (hb : b ≤ b') : TxSt w wr gt a s b' := ⟨h.low, h.src.more hb, h.blk⟩
theorem LRSt.texts (h : LRSt w wr gc b r tv) (a s : ByteArray) : TxSt w (wr.alloc (.cells #[.string a, .string s] 9)) wr.heap.size a s b ∧ w.heap.size < wr.heap.size := by
  have := h.lt
  exact ⟨⟨h.low.alloc (by omega) _, h.src.alloc _, Blk.new wr _ _⟩, this⟩
theorem TxSt.at (h : TxSt w wr gt a s b) (ha : a.size ≤ 400) (hs : s.size ≤ 400) {k : Nat} (hk : k < 2) : ∃ x : ByteArray, wr.cell? ⟨gt, k, none⟩ = some (.string x) ∧ x.size ≤ 400 := by
  have : k = 0 ∨ k = 1 := by omega
  rcases this with rfl | rfl
  · exact ⟨a, h.blk.cell 0, ha⟩
  · exact ⟨s, h.blk.cell 1, hs⟩
theorem LRSt.tsnil (h : LRSt w wr gc b r tv) : LRSt w (wr.setCell ⟨gc, 3, none⟩ noT) gc b { r with ts := [] } noT := by
  have hg := h.hg
  have hx : RulB (wr.setCell ⟨gc, 3, none⟩ noT) gc { r with ts := [] } noT := Blk.put h.cb 3 noT
  exact ⟨h.low.setCell (by show w.heap.size ≤ gc; omega) _, h.src.setCell (by show w.heap.size ≤ gc; omega) (by show gc ≠ w.heap.size; omega) _, hx, OwnT.nil _ _, (fun e => by cases e), ⟨h.siz.ca, h.siz.pa, h.siz.ke, (fun t ht => by cases ht), by show (0 : Nat) ≤ 1000000; omega⟩, (fun t ht => by cases ht), hg⟩
end
attribute [local irreducible] checkR fmtR textR shortT shortB shortS
attribute [local go_sem ↓] Go.wp_at_zero Go.wp_at_succ
set_option maxRecDepth 100000 in
set_option maxHeartbeats 16000000 in
theorem ruleTexts_walk (w : World) (A : Option Addr) (n c : Nat) (by' : UInt8) (hn : (n : Int) ≤ 9223372036854775807)
    (hl : ∀ k, k < n → ∃ (ad : Addr) (z : Int), A = some ad ∧ ad.block < w.heap.size ∧ w.cell? (ad.add k) = some (.int .i64 z) ∧ -9223372036854775808 ≤ z ∧ z ≤ 9223372036854775807) (hG : RGlob w) (hE : Env w) :
    Calls Tryz.prog 6 #[.slice A n c, bv by'] w fun e w' => e = .returned (.bool true) ∧ Below w.heap.size w w' := by
  have HL := Lib.hid hl
  have HN := Lib.hid hn
  have HAW := Lib.hid (fun (W : World) (h : Below w.heap.size w W) => awakeR W (hG.below h) (hE.below h))
  have HRD := Lib.hid (fun (W : World) (h : Below w.heap.size w W) (x : ByteArray) (hx : x.size ≤ 1000) => readsR x hx W (hG.below h) (hE.below h))
  clear hl hn hG hE
  go_enter Tryz.func6, Tryz.ntmps6
  go_wp2_with fail
  refine (src_new _ A n c HN.out HL.out).mono ?_
  rintro e w1 ⟨rfl, hs1, hb1⟩
  have HLT1 := Lib.hid (src_lt hs1)
  have HS1 := Lib.hid hs1
  have HB1 := Lib.hid hb1
  clear hs1 hb1
  go_wp2_with fail
  refine (src_rule _ w.heap.size w.heap.size 0 HS1.out (by omega)).mono ?_
  rintro e w2 ⟨r, T, tn, tc, rfl, htn, htl, hm, hown, hs, hg⟩
  have ST0 := Lib.hid (lr_new HB1.out HLT1.out hs hg hown hm htn htl)
  have HM := Lib.hid hm
  have HTL := Lib.hid (show r.ts.length ≤ 3 by omega)
  clear htn htl hm hown hs hg HS1 HB1 HLT1
  go_wp2_with fail
  refine (src_n _ w.heap.size w.heap.size (0 + 200) 3 ST0.out.src (by omega) (by omega) (by omega)).mono ?_
  rintro e w3 ⟨y, rfl, y0, y1, hs, hg⟩
  have ST1 := Lib.hid (ST0.out.step hs hg)
  clear hs hg ST0
  generalize w2.heap.size = gc at *
  go_upto_if 19 with (fail)
  go_cut [] (fun wx => ∃ r T tn tc, LRSt w wx gc 300 r (.slice T tn tc) ∧ MkR r ∧ r.ts.length ≤ 3)
  case first =>
    by_cases hy : y = 0
    · have ty : (y == 0) = true := by simpa using hy
      clear hy
      have c1 := RulB.c1 ST1.out.cb
      have c2 := RulB.c2 ST1.out.cb
      have c3 := RulB.c3 ST1.out.cb
      have f1 := ST1.out.cb.free 1
      have f2 := ST1.out.cb.free 2
      have f3 := ST1.out.cb.free 3
      have ST2 := Lib.hid (((ST1.out.tsnil).ca allCalls (by decide)).ac 1)
      have HM2 := Lib.hid (show MkR { r with ts := [], ca := allCalls, ac := 1 } from ⟨by show allCalls < _; decide, HM.out.pa, HM.out.ke, fun t ht => by cases ht⟩)
      go_wp2_with fail
      go_meet
      exact ⟨_, _, _, _, ST2.out.more (by omega), HM2.out, by show (0 : Nat) ≤ 3; omega⟩
    · have ty : (y == 0) = false := by simpa using hy
      clear hy
      go_wp2_with fail
      go_meet
      exact ⟨_, _, _, _, ST1.out.more (by omega), HM.out, HTL.out⟩
  case rest =>
  obtain ⟨q, U, un, uc, st, hmq, hlq⟩ := hcut
  have ST2 := Lib.hid st
  have HFS := Lib.hid (fmt_sz hmq hlq)
  have HSS := Lib.hid (shortS_sz hmq)
  clear st hmq hlq ST1 HM HTL
  have HFM := Lib.hid (fun (W : World) (h : LRSt w W gc 300 q (.slice U un uc)) => rformatR q U un uc h.at.1 h.siz h.num W h.at.2)
  have HRS := Lib.hid (fun (W : World) (h : LRSt w W gc 300 q (.slice U un uc)) => rshortS q U un uc h.at.1 h.siz W h.at.2)
  simp only [fmtV] at HFM
  go_wp2_with ((with_reducible refine load_blk ?_ 26 (.tmp 6) ?_ ST2.out.cb ?_ _ Tryz.underlying26 ?_ ?_ ?_); (iterate 4 rfl); exact rul_sz _ _)
  refine (HFM.out _ ST2.out).mono ?_
  rintro e w4 ⟨rfl, hb4⟩
  have ST3 := Lib.hid (ST2.out.below hb4)
  clear hb4 ST2
  go_wp2_with ((with_reducible refine load_blk ?_ 26 (.tmp 6) ?_ ST3.out.cb ?_ _ Tryz.underlying26 ?_ ?_ ?_); (iterate 4 rfl); exact rul_sz _ _)
  refine (HRS.out _ ST3.out).mono ?_
  rintro e w5 ⟨rfl, hb5⟩
  obtain ⟨tx0, hgt⟩ := (ST3.out.below hb5).texts (fmtR q) (shortS q)
  have TX0 := Lib.hid tx0
  clear hb5 ST3 tx0 HFM HRS
  generalize checkR q = er at *
  generalize fmtR q = ta at *
  generalize shortS q = tb at *
  go_wp2_with fail
  go_loopw [10] (fun i wr => ∃ k : Nat, k ≤ 2 ∧ i = .int .i64 (k : Int) ∧ TxSt w wr w5.heap.size ta tb (300 + k)) (fun i _ => 2 - (intOf i).toNat)
  case atStart => exact ⟨0, by omega, rfl, TX0.out.more (by omega)⟩
  case round =>
    obtain ⟨k, hk, rfl, hst⟩ := hrel
    have ST := Lib.hid hst
    clear hst TX0
    by_cases hk2 : k < 2
    · have d0 : (0 : Int) ≤ (k : Int) := by omega
      have d1 : (k : Int) < 2 := by omega
      by_cases he : er = 0
      · have te : (er == 0) = true := by rw [he]; rfl
        clear he
        obtain ⟨x, hx, hxs⟩ := ST.out.at HFS.out HSS.out hk2
        by_cases hne : x = ⟨#[]⟩
        · have t1 : (x.toList == []) = true := by rw [hne]; decide +kernel
          have t2 : x.toList.isEmpty = true := by rw [hne]; decide +kernel
          clear hne
          go_wp2_with fail
          go_roundw
          case rel => exact ⟨k + 1, by omega, by go_num, ST.out.more (by omega)⟩
          case measure => simp [intOf]; omega
        · have t2 : x.toList.isEmpty = false := rp_some hne
          have t1 : (x.toList == []) = false := by
            cases hl : x.toList with
            | nil => rw [hl] at t2; cases t2
            | cons a l => rfl
          have hx1 : 1 ≤ x.size := by
            by_cases h : 1 ≤ x.size
            · exact h
            · exact absurd (bytes_ext (by
                have : x.data.toList.length = 0 := by rw [bsz']; omega
                rw [List.eq_nil_of_length_eq_zero this])) hne
          clear hne
          go_wp2_with fail
          refine (src_n _ w.heap.size w.heap.size (300 + k) _ ST.out.src (by omega) (by omega) (by omega)).mono ?_
          rintro e w6 ⟨z, rfl, z0, z1, hs6, hg6⟩
          obtain ⟨j, rfl⟩ := Int.eq_ofNat_of_zero_le z0
          have ST6 := Lib.hid (ST.out.step hgt hs6 hg6)
          clear hs6 hg6 hx
          have hj : j < x.size := by omega
          clear z0 z1
          go_upto_region 13 with (fail)
          go_cut [106] from 32 to 106 (fun v wx => v = .bool false ∧ Below w6.heap.size w6 wx)
          case first =>
            have HR6 := Lib.hid (fun (W : World) (h : Below w6.heap.size w6 W) (y : ByteArray) (hy : y.size ≤ 1000) => HRD.out W (below_then ST6.out.low h) y hy)
            have a1 : (0 : Int) ≤ (j : Int) := by omega
            have a2 : (j : Int) ≤ (x.size : Int) := by omega
            have a3 : IntKind.i64.wrap ((j : Int) + 1) = (j : Int) + 1 := IntWalk.i64_in _ (by omega)
            have a4 : (j : Int) + 1 ≤ (x.size : Int) := by omega
            have a5 : (0 : Int) ≤ (j : Int) + 1 := by omega
            have a6 : ((j : Int) + 1).toNat = j + 1 := by omega
            have hmn : min j x.size = j := by omega
            have f1 : ¬ 9223372036854775807 < j + 1 := by omega
            have f2 : ¬ 9223372036854775807 < j + 1 + (x.size - (j + 1)) := by omega
            have f3 : ¬ 9223372036854775807 < j + (x.size - (j + 1)) := by omega
            have f4 : ¬ 9223372036854775807 < j + 1 + (x.size - j) := by omega
            have f5 : ¬ 9223372036854775807 < x.size + 1 := by omega
            have f6 : ¬ 9223372036854775807 < x.size + 7 := by omega
            have hcv : ∀ W : World, (convert 48 9 (.slice (some ⟨W.heap.size, 0, none⟩) 1 1)).run Tryz.prog (W.alloc (.cells #[bv by'] 5)) = .ok (.string ⟨#[by']⟩) (W.alloc (.cells #[bv by'] 5)) := fun W =>
              run_convert_bytes_back _ 48 9 5 ⟨W.heap.size, 0, none⟩ 1 [by'] Tryz.underlying48 Tryz.underlying5 Tryz.underlying9 (fun j hj => by
                have : j = 0 := by simpa using hj
                subst this
                exact cell_one_new _ _ _ 0 _ rfl)
            have hw6 : Below w6.heap.size w6 w6.drew ∧ w6.heap.size ≤ w6.drew.heap.size := ⟨(Below.refl _ _).drew, Nat.le_refl _⟩
            clear te t1 t2 d0 d1 hx1
            go_region_held (fun w' => Below w6.heap.size w6 w' ∧ w6.heap.size ≤ w'.heap.size)
              (first | assumption | exact hw6 | exact al_hold (by assumption) | exact then_hold (by assumption) hb)
              (first | (go_at_call 21; refine (HR6.out _ (And.left (by assumption)) _ (by first | omega | exact tx3 hxs (by first | decide | (show 1 ≤ 10; omega)) | exact tx2 hxs | exact tx1 hxs (by decide))).mono ?_; rintro e w9 ⟨rfl, hb⟩))
            all_goals
              go_wp2_with fail
              go_meet
              exact ⟨rfl, And.left (by assumption)⟩
          case rest =>
          obtain ⟨rfl, hb⟩ := hcut
          have STn := Lib.hid (ST6.out.below hb)
          clear hb ST6 ST
          go_wp2_with fail
          go_roundw
          case rel => exact ⟨k + 1, by omega, by go_num, STn.out.more (by omega)⟩
          case measure => simp [intOf]; omega
      · have te : (er == 0) = false := by simpa using he
        clear he
        go_wp2_with fail
        refine (HAW.out _ ST.out.low).mono ?_
        rintro e w11 ⟨rfl, hb11⟩
        have HB := Lib.hid (below_then ST.out.low hb11)
        clear hb11
        go_wp2_with fail
        go_ret
        exact ⟨rfl, HB.out⟩
    · have d1 : ¬ (k : Int) < 2 := by omega
      go_wp2_with fail
      refine (HAW.out _ ST.out.low).mono ?_
      rintro e w11 ⟨rfl, hb11⟩
      have HB := Lib.hid (below_then ST.out.low hb11)
      clear hb11
      go_wp2_with fail
      go_ret
      exact ⟨rfl, HB.out⟩
end Go.Proofs.YtbbihfafkpniiaaGreatDoor
/- The walk of RuleTexts, with what the row lists. -/
