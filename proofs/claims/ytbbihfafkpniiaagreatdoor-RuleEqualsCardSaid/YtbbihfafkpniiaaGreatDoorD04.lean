/- Texts of one proof, laid together. -/
import Derived.Test.YtbbihfafkpniiaaGreatDoorD03
import Derived.Test.YtbbihfafkpniiaaGreatDoorC18
/- The source of numbers of package kauditmake: Good. -/
namespace Go.Proofs.YtbbihfafkpniiaaGreatDoor
open Go.RowKit
structure Gd1 (w wr : World) (base g : Nat) (b : Int) : Prop where
  only : w.grownBy wr (some g)
  src : SrcOk wr base g b
  rb : RulB wr w.heap.size zeroR noT
def GoodPost (w : World) (base g : Nat) (b : Int) (e : Ending) (w' : World) : Prop :=
  ∃ (r : Rul) (T : Option Addr) (n c : Nat), e = .returned (rulV r (.slice T n c)) ∧ n = r.ts.length ∧ n ≤ 3 ∧ MkR r ∧ checkR r = 0 ∧ OwnT w' (w.heap.size + 1) (.slice T n c) r.ts ∧ SrcOk w' base g b ∧ w.grownBy w' (some g)
def dfltR : Rul := ⟨3, 1, allCalls, [], 0, ⟨#[]⟩, 0, ⟨#[]⟩⟩
theorem dflt_ok : checkR dfltR = 0 := by decide +kernel
theorem dflt_mk : MkR dfltR := ⟨by decide, by decide, by decide, fun t ht => (by cases ht)⟩
section
variable {w wr w' : World} {base g : Nat} {b b' : Int} {r : Rul} {T : Option Addr} {n c : Nat}
theorem Gd1.step (h : Gd1 w wr base g b) (hl : g < w.heap.size) (hs : SrcOk w' base g b') (hg : wr.grownBy w' (some g)) : Gd1 w w' base g b' :=
  ⟨h.only.trans hg, hs, h.rb.grown hg (fun e => by injection e with e; omega)⟩
theorem Gd1.alloc (h : Gd1 w wr base g b) (o : Obj) : Gd1 w (wr.alloc o) base g b := ⟨only_alloc h.only o, h.src.alloc o, Blk.alloc h.rb o⟩
theorem Gd1.below (h : Gd1 w wr base g b) (hl : g < w.heap.size) (hb : Below wr.heap.size wr w') : Gd1 w w' base g b :=
  ⟨h.only.trans ⟨hb.os, hb.tape, hb.output, hb.size, fun i hi _ => hb.block i hi⟩, h.src.below hb, Blk.below h.rb hb⟩
theorem Gd1.more (h : Gd1 w wr base g b) (hb : b ≤ b') : Gd1 w wr base g b' := ⟨h.only, h.src.more hb, h.rb⟩
/-- The result is written. -/
theorem Gd1.out (h : Gd1 w wr base g b) (hl : g < w.heap.size) (hbs : base ≤ w.heap.size) (hn : n = r.ts.length) (h3 : n ≤ 3) (hm : MkR r) (hc : checkR r = 0) (ho : OwnT wr (w.heap.size + 1) (.slice T n c) r.ts) :
    RulB (wr.setRow w.heap.size (rulC r (.slice T n c))) w.heap.size r (.slice T n c) ∧ GoodPost w base g b (.returned (rulV r (.slice T n c))) (wr.setRow w.heap.size (rulC r (.slice T n c))) :=
  ⟨Blk.row h.rb _, r, T, n, c, rfl, hn, h3, hm, hc, ho.row (by omega) _, h.src.keep (setRow_other _ _ _ _ (by omega)) (fun i hi => setRow_other _ _ _ _ (by omega)),
    ⟨h.only.os, h.only.tape, h.only.output, by rw [setRow_size]; exact h.only.size, fun i hi hne => (setRow_other _ _ _ _ (by omega)).trans (h.only.block i hi hne)⟩⟩
end
theorem own_tests {w : World} {lo : Nat} {T : Option Addr} {tn tc : Nat} {ts : List Tst} (h : OwnT w lo (.slice T tn tc) ts) : TestsAt w w.heap.size T ts := by
  obtain ⟨A, c, e, ht⟩ := h.tests
  injection e with e1
  rw [e1]; exact ht
attribute [local irreducible] checkR
set_option maxRecDepth 100000 in
set_option maxHeartbeats 4000000 in
theorem src_good (w : World) (base g : Nat) (b : Int) (h : SrcOk w base g b) (hb : b ≤ 1000000000) :
    Calls Tryz.prog 24 #[.pointer (some ⟨g, 0, none⟩)] w (GoodPost w base g (b + 1600)) := by
  have HB := Lib.hid hb
  have hlt0 : g < w.heap.size := src_lt h
  have hbase : base ≤ w.heap.size := by have := h.1; omega
  have ST0 := Lib.hid (show Gd1 w (w.alloc (.cells (rulC zeroR noT) 26)) base g b from ⟨only_alloc (World.grownBy.refl w (some g)) _, h.alloc _, Blk.new w _ _⟩)
  clear h hb
  go_enter Tryz.func24, Tryz.ntmps24
  go_wp2_with fail
  go_loopw [3] (fun i wr => ∃ k : Nat, k ≤ 8 ∧ i = .int .i64 (k : Int) ∧ Gd1 w wr base g (b + 200 * k)) (fun i _ => 8 - (intOf i).toNat)
  case atStart => exact ⟨0, by omega, rfl, ST0.out.more (by omega)⟩
  case round =>
    obtain ⟨k, hk, rfl, hst⟩ := hrel
    have ST1 := Lib.hid hst
    clear hst ST0
    by_cases hk8 : k < 8
    · have hk1 : (k : Int) < 8 := by omega
      go_wp2_with fail
      refine (src_rule _ base g (b + 200 * k) ST1.out.src (by have := HB.out; omega)).mono ?_
      rintro e w1 ⟨r, T, n, c, rfl, hn, h3, hm, hown, hs, hg⟩
      have HLW := Lib.hid (show w.heap.size + 1 ≤ wr.heap.size + 1 by have := ST1.out.only.size; omega)
      have ST2 := Lib.hid ((ST1.out.step hlt0 hs hg).alloc (.cells (rulC r (.slice T n c)) 26))
      have HX2 := Lib.hid (Blk.new w1 (rulC r (.slice T n c)) 26)
      have HO2 := Lib.hid ((hown.low HLW.out).alloc (.cells (rulC r (.slice T n c)) 26))
      have HN := Lib.hid hn
      have H3 := Lib.hid h3
      have HM := Lib.hid hm
      have HC := Lib.hid (fun W (ht : TestsAt W W.heap.size T r.ts) => rcheckR r T c n HN.out (mk_siz HM.out (by have := HN.out; have := H3.out; omega)).1 W ht)
      clear hn h3 hm hown hs hg ST1
      go_wp2_with ((with_reducible refine load_blk ?_ 26 (.tmp 4) ?_ HX2.out ?_ _ Tryz.underlying26 ?_ ?_ ?_); (iterate 4 rfl); exact rul_sz _ _)
      refine (HC.out _ (own_tests HO2.out)).mono ?_
      rintro e w2 ⟨rfl, hb2⟩
      have ST3 := Lib.hid (ST2.out.below hlt0 hb2)
      have HX3 := Lib.hid (Blk.below HX2.out hb2)
      have HO3 := Lib.hid (HO2.out.below hb2)
      clear hb2 ST2 HX2 HO2
      by_cases he : checkR r = 0
      · have t1 : (checkR r == 0) = true := by rw [he]; rfl
        have HE := Lib.hid he
        clear he
        go_wp2_with (first | ((with_reducible refine load_blk ?_ 26 (.tmp 4) ?_ HX3.out ?_ _ Tryz.underlying26 ?_ ?_ ?_); (iterate 4 rfl); exact rul_sz _ _) | ((with_reducible refine store_blk ?_ 26 (.tmp 2) (.tmp 14) ?_ ST3.out.rb (rulC r (.slice T n c)) ?_ ?_ ?_ ?_ ?_ ?_); (iterate 4 rfl); (exact rul_sz _ _); rfl; (exact rul_one _ _ _ _)))
        refine bodyPost_ret (rul_ret1 (fn := Tryz.f24) rfl _ _ w.heap.size r (.slice T n c) rfl (Blk.row ST3.out.rb _)) rfl ?_
        exact ((ST3.out.more (b' := b + 1600) (by omega)).out hlt0 hbase HN.out H3.out HM.out HE.out HO3.out).2
      · have t1 : (checkR r == 0) = false := by simpa using he
        clear he
        go_wp2_with fail
        go_roundw
        case rel => exact ⟨k + 1, by omega, by go_num, ST3.out.more (by omega)⟩
        case measure => simp [intOf]; omega
    · go_wp2_with ((with_reducible refine store_blk ?_ 26 (.tmp 2) (.tmp 15) ?_ ST1.out.rb (rulC dfltR noT) ?_ ?_ ?_ ?_ ?_ ?_); (iterate 4 rfl); (exact rul_sz _ _); rfl; (exact rul_one _ _ _ _))
      refine bodyPost_ret (rul_ret1 (fn := Tryz.f24) rfl _ _ w.heap.size dfltR noT rfl (Blk.row ST1.out.rb _)) rfl ?_
      exact ((ST1.out.more (b' := b + 1600) (by omega)).out hlt0 hbase rfl (by show 0 ≤ 3; omega) dflt_mk dflt_ok (OwnT.nil _ _)).2
end Go.Proofs.YtbbihfafkpniiaaGreatDoor
