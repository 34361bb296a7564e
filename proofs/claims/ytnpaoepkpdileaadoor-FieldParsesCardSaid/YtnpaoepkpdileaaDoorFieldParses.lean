/- The walk of the law FieldParses. -/
import Derived.Test.YtnpaoepkpdileaaDoorFieldVParse
import Derived.Test.YtnpaoepkpdileaaDoorFieldRParse
import Derived.Test.YtnpaoepkpdileaaDoorFieldAwake
import Derived.Laws.StructEq
namespace Go.Proofs.YtnpaoepkpdileaaDoor
open Go.RowKit
/-- The words that the law appends. -/
def opW (k : Nat) : ByteArray := match k with
  | 0 => ⟨#[61]⟩ | 1 => ⟨#[33, 61]⟩ | 2 => ⟨#[60]⟩ | 3 => ⟨#[60, 61]⟩ | 4 => ⟨#[62]⟩ | 5 => ⟨#[62, 61]⟩ | 6 => ⟨#[38]⟩ | _ => ⟨#[38, 61]⟩
def opCells : Array Value := #[.string ⟨#[61]⟩, .string ⟨#[33, 61]⟩, .string ⟨#[60]⟩, .string ⟨#[60, 61]⟩, .string ⟨#[62]⟩, .string ⟨#[62, 61]⟩, .string ⟨#[38]⟩, .string ⟨#[38, 61]⟩]
theorem opCells_at {q : Nat} (h : q < 8) : opCells[q]? = some (.string (opW q)) := by
  have : q = 0 ∨ q = 1 ∨ q = 2 ∨ q = 3 ∨ q = 4 ∨ q = 5 ∨ q = 6 ∨ q = 7 := by omega
  rcases this with rfl | rfl | rfl | rfl | rfl | rfl | rfl | rfl <;> rfl
theorem opW_size (q : Nat) : (opW q).size ≤ 2 := by unfold opW; split <;> decide
theorem nameF_size (f : Int) : (nameF f).size ≤ 8 := by
  unfold nameF; split
  · decide
  · exact field_len _
/-- The three texts that the law reads. -/
structure Texts (w wx : World) (g : Nat) (cs : Array Value) : Prop where
  blk : Blk wx g 9 cs
  sz : cs.size = 3
  all : ∀ k, k < 3 → ∃ x : ByteArray, cs[k]? = some (.string x) ∧ x.size ≤ 1000
  low : Below w.heap.size w wx
theorem Texts.below {w wx wy : World} {g : Nat} {cs : Array Value} (h : Texts w wx g cs) (hb : Below wx.heap.size wx wy) : Texts w wy g cs := ⟨h.blk.below hb, h.sz, h.all, below_then h.low hb⟩
def TextsV (w : World) (v : Value) (wx : World) : Prop := ∃ g cs, v = .slice (some ⟨g, 0, none⟩) 3 3 ∧ Texts w wx g cs
theorem texts_new {w wx : World} {x y z : ByteArray} (hb : Below w.heap.size w wx) (h : x.size ≤ 1000 ∧ y.size ≤ 1000 ∧ z.size ≤ 1000) : TextsV w (.slice (some ⟨wx.heap.size, 0, none⟩) 3 3) (wx.alloc (.cells #[.string x, .string y, .string z] 9)) :=
  ⟨_, _, rfl, Blk.new wx _ _, rfl, fun k hk => by
    have : k = 0 ∨ k = 1 ∨ k = 2 := by omega
    rcases this with rfl | rfl | rfl
    · exact ⟨x, rfl, h.1⟩
    · exact ⟨y, rfl, h.2.1⟩
    · exact ⟨z, rfl, h.2.2⟩, hb.alloc hb.size _⟩
attribute [local irreducible] textB numF numS unqS unqE checkF anyE testS fieldN opN opAt cellsN cellsO nameF opW
set_option maxRecDepth 100000 in
set_option maxHeartbeats 16000000 in
theorem fieldParses_walk (s : ByteArray) (f o : Int) (hf : 0 ≤ f ∧ f ≤ 255) (ho : 0 ≤ o ∧ o ≤ 255) (w : World) (hfn : FNames w) (hfo : FOps w) (he : Env w) :
    Calls Tryd.prog 8 #[.string s, .int .u8 f, .int .u8 o] w fun e w' => e = .returned (.bool true) ∧ Below w.heap.size w w' := by
  have HFN := Lib.hid (fun (W : World) (h : Below w.heap.size w W) => hfn.below h)
  have HFO := Lib.hid (fun (W : World) (h : Below w.heap.size w W) => hfo.below h)
  have HE := Lib.hid (fun (W : World) (h : Below w.heap.size w W) => he.below h)
  have HAW := Lib.hid (fun (W : World) (h : Below w.heap.size w W) => awake12 W (hfn.below h) (hfo.below h) (he.below h).tab (he.below h).pow)
  clear hfn hfo he
  by_cases h3 : (300 : Int) < (s.size : Int)
  · go_enter Tryd.func8, Tryd.ntmps8
    go_wp2_with fail
    refine (HAW.out _ (Below.refl _ _)).mono ?_
    rintro e w8 ⟨rfl, hb8⟩
    go_wp2_with fail
    go_ret
    exact ⟨rfl, hb8⟩
  · obtain ⟨q, hq⟩ : ∃ q : Nat, o.tmod 8 = (q : Int) := ⟨(o.tmod 8).toNat, by have := Int.tmod_nonneg 8 ho.1; omega⟩
    obtain ⟨p, hp⟩ : ∃ p : Nat, f.tmod 22 = (p : Int) := ⟨(f.tmod 22).toNat, by have := Int.tmod_nonneg 22 hf.1; omega⟩
    have q8 : (q : Int) < 8 := by rw [← hq]; exact Int.tmod_lt_of_pos _ (by omega)
    have p22 : (p : Int) < 22 := by rw [← hp]; exact Int.tmod_lt_of_pos _ (by omega)
    have q0 : (0 : Int) ≤ (q : Int) := by omega
    have p0 : (0 : Int) ≤ (p : Int) := by omega
    have hq' : o % 8 = (q : Int) := by rw [← hq]; exact (Int.tmod_eq_emod_of_nonneg ho.1).symm
    have hp' : f % 22 = (p : Int) := by rw [← hp]; exact (Int.tmod_eq_emod_of_nonneg hf.1).symm
    have HOC := Lib.hid (opCells_at (q := q) (by omega))
    obtain ⟨N, hN⟩ : ∃ N, nameF (1 + (p : Int)) = N := ⟨_, rfl⟩
    obtain ⟨Z, hZ⟩ : ∃ Z, opW q = Z := ⟨_, rfl⟩
    have HNM := Lib.hid (fun W => rnameF (1 + (p : Int)) W)
    rw [hN] at HNM
    rw [hZ] at HOC
    have sN : N.size ≤ 8 := by rw [← hN]; exact nameF_size _
    have sZ : Z.size ≤ 2 := by rw [← hZ]; exact opW_size _
    have sS : s.size ≤ 300 := by omega
    have HSZ := Lib.hid (show s.size ≤ 1000 ∧ (N ++ s).size ≤ 1000 ∧ (N ++ Z ++ s).size ≤ 1000 by simp only [ByteArray.size_append]; omega)
    have b0 : IntKind.i64.wrap (p : Int) = (p : Int) := IntWalk.i64_in _ (by omega)
    have b1 : IntKind.i64.wrap (1 + (p : Int)) = 1 + (p : Int) := IntWalk.i64_in _ (by omega)
    clear hN hZ
    go_enter Tryd.func8, Tryd.ntmps8
    go_upto_region 3 with (fail)
    go_cut [7] (fun v wx => TextsV w v wx)
    case first =>
      refine wp_region_any (by kernel_rfl) ?_
      change wpAny _ _ _ _ _ _ _ (World.drew _)
      refine wpAny_take (i := 0) (v := ?_) rfl (by kernel_rfl) (by kernel_rfl) (by kernel_rfl) (fun _ _ _ h => h) (Or.inl ⟨by kernel_rfl, ?_⟩) ?_
      rotate_left
      · intro w
        go_simp
        try (with_reducible rfl)
      refine wpAny_take (i := 1) (v := ?_) rfl (by kernel_rfl) (by kernel_rfl) (by kernel_rfl) (fun _ _ _ h => h) (Or.inl ⟨by kernel_rfl, ?_⟩) ?_
      rotate_left
      · intro w
        go_simp
        try (with_reducible rfl)
      refine wpAny_take (i := 2) (v := ?_) rfl (by kernel_rfl) (by kernel_rfl) (by kernel_rfl) (fun _ _ _ h => h) (Or.inl ⟨by kernel_rfl, ?_⟩) ?_
      rotate_left
      · intro w
        go_simp
        try (with_reducible rfl)
      refine wpAny_take (i := 3) (v := ?_) rfl (by kernel_rfl) (by kernel_rfl) (by kernel_rfl) (fun _ _ _ h => h) (Or.inl ⟨by kernel_rfl, ?_⟩) ?_
      rotate_left
      · intro w
        go_simp
        try (with_reducible rfl)
      refine wpAny_take (i := 4) (v := ?_) rfl (by kernel_rfl) (by kernel_rfl) (by kernel_rfl) (fun _ _ _ h => h) (Or.inl ⟨by kernel_rfl, ?_⟩) ?_
      rotate_left
      · intro w
        go_simp
        try (with_reducible rfl)
      refine wpAny_take (i := 6) (v := ?_) rfl (by kernel_rfl) (by kernel_rfl) (by kernel_rfl) (fun _ _ _ h => h) (Or.inl ⟨by kernel_rfl, ?_⟩) ?_
      rotate_left
      · intro w
        go_simp
        try (with_reducible rfl)
      refine wpAny_take (i := 8) (v := ?_) rfl (by kernel_rfl) (by kernel_rfl) (by kernel_rfl) (fun _ _ _ h => h) (Or.inl ⟨by kernel_rfl, ?_⟩) ?_
      rotate_left
      · intro w
        go_simp
        try (with_reducible rfl)
      refine wpAny_take (i := 9) (v := ?_) rfl (by kernel_rfl) (by kernel_rfl) (by kernel_rfl) (fun _ _ _ h => h) (Or.inl ⟨by kernel_rfl, ?_⟩) ?_
      rotate_left
      · intro w
        go_simp
        try (with_reducible rfl)
      refine wpAny_take (i := 10) (v := ?_) rfl (by kernel_rfl) (by kernel_rfl) (by kernel_rfl) (fun _ _ _ h => h) (Or.inl ⟨by kernel_rfl, ?_⟩) ?_
      rotate_left
      · intro w
        go_simp
        try (with_reducible rfl)
      refine wpAny_take (i := 11) (v := ?_) rfl (by kernel_rfl) (by kernel_rfl) (by kernel_rfl) (fun _ _ _ h => h) (Or.inl ⟨by kernel_rfl, ?_⟩) ?_
      rotate_left
      · intro w
        go_simp
        try (with_reducible rfl)
      refine wpAny_take (i := 14) (v := ?_) rfl (by kernel_rfl) (by kernel_rfl) (by kernel_rfl) (fun _ _ _ h => h) (Or.inl ⟨by kernel_rfl, ?_⟩) ?_
      rotate_left
      · intro w
        go_simp
        try (with_reducible rfl)
      refine wpAny_take (i := 15) (v := ?_) rfl (by kernel_rfl) (by kernel_rfl) (by kernel_rfl) (fun _ _ _ h => h) (Or.inl ⟨by kernel_rfl, ?_⟩) ?_
      rotate_left
      · intro w
        go_simp
        try (with_reducible rfl)
      refine wpAny_take (i := 19) (v := ?_) rfl (by kernel_rfl) (by kernel_rfl) (by kernel_rfl) (fun _ _ _ h => h) (Or.inl ⟨by kernel_rfl, ?_⟩) ?_
      rotate_left
      · intro w
        go_simp
        try (with_reducible rfl)
      have HB := Lib.hid (Below.refl w.heap.size w).drew
      generalize w.drew = w0 at *
      refine wpAny_ready (rs := [5, 13]) (by kernel_rfl) (by simp) ?_
      refine (AllReady.cons rfl (fun K hK => ?_) (AllReady.cons rfl (fun K hK => ?_) AllReady.nil))
      · go_simp
        go_at_call 22
        refine (HNM.out _).mono ?_
        rintro e w1 ⟨rfl, hb⟩
        have HB := Lib.hid (HB.out.trans (hb.mono HB.out.size))
        clear hb
        go_simp
        refine hK _ _ ?_
        clear hK K
        refine wpAny_take (i := 7) (v := ?_) rfl (by kernel_rfl) (by kernel_rfl) (by kernel_rfl) (fun _ _ _ h => h) (Or.inl ⟨by kernel_rfl, ?_⟩) ?_
        rotate_left
        · intro w
          go_simp
          rw [if_neg (by first | omega | (simp only [ByteArray.size_append]; omega))]
        refine wpAny_ready (rs := [12, 13]) (by kernel_rfl) (by simp) ?_
        refine (AllReady.cons rfl (fun K hK => ?_) (AllReady.cons rfl (fun K hK => ?_) AllReady.nil))
        · go_simp
          go_at_call 22
          refine (HNM.out _).mono ?_
          rintro e w2 ⟨rfl, hb⟩
          have HB := Lib.hid (HB.out.trans (hb.mono HB.out.size))
          clear hb
          go_simp
          refine hK _ _ ?_
          clear hK K
          refine wpAny_ready (rs := [13]) (by kernel_rfl) (by simp) ?_
          refine (AllReady.cons rfl (fun K hK => ?_) AllReady.nil)
          go_simp
          refine hK _ _ ?_
          clear hK K
          have HT8 := Lib.hid (Blk.new w2 opCells 9)
          have HB := Lib.hid (HB.out.alloc HB.out.size (.cells opCells 9))
          generalize hg8 : w2.heap.size = g8 at *
          clear hg8
          unfold opCells at HT8 HB
          generalize w2.alloc (.cells #[.string ⟨#[61]⟩, .string ⟨#[33, 61]⟩, .string ⟨#[60]⟩, .string ⟨#[60, 61]⟩, .string ⟨#[62]⟩, .string ⟨#[62, 61]⟩, .string ⟨#[38]⟩, .string ⟨#[38, 61]⟩] 9) = w3 at *
          refine wpAny_take (i := 16) (v := ?_) rfl (by kernel_rfl) (by kernel_rfl) (by kernel_rfl) (fun _ _ _ h => h) (Or.inl ⟨by kernel_rfl, ?_⟩) ?_
          rotate_left
          · intro w
            go_simp
            try (with_reducible rfl)
          refine wpAny_ready (rs := [17]) (by kernel_rfl) (by simp) ?_
          refine (AllReady.cons rfl (fun K hK => ?_) AllReady.nil)
          have hc := (HT8.out.cell q).trans HOC.out
          go_simp
          refine hK _ _ ?_
          clear hK K hc
          refine wpAny_take (i := 18) (v := ?_) rfl (by kernel_rfl) (by kernel_rfl) (by kernel_rfl) (fun _ _ _ h => h) (Or.inl ⟨by kernel_rfl, ?_⟩) ?_
          rotate_left
          · intro w
            go_simp
            rw [if_neg (by first | omega | (simp only [ByteArray.size_append]; omega))]
          refine wpAny_take (i := 20) (v := ?_) rfl (by kernel_rfl) (by kernel_rfl) (by kernel_rfl) (fun _ _ _ h => h) (Or.inl ⟨by kernel_rfl, ?_⟩) ?_
          rotate_left
          · intro w
            go_simp
            rw [if_neg (by first | omega | (simp only [ByteArray.size_append]; omega))]
          refine wpAny_ready (rs := [21]) (by kernel_rfl) (by simp) ?_
          refine AllReady.cons rfl (fun K hK => ?_) AllReady.nil
          go_simp
          refine hK _ _ ?_
          clear hK K
          refine wpAny_ready (rs := [22]) (by kernel_rfl) (by simp) ?_
          refine AllReady.cons rfl (fun K hK => ?_) AllReady.nil
          go_simp
          refine hK _ _ ?_
          clear hK K
          refine wpAny_done (by kernel_rfl) ?_ _
          go_wp2_with fail
          go_meet
          exact texts_new HB.out HSZ.out
        · go_simp
          refine hK _ _ ?_
          clear hK K
          have HT8 := Lib.hid (Blk.new w1 opCells 9)
          have HB := Lib.hid (HB.out.alloc HB.out.size (.cells opCells 9))
          generalize hg8 : w1.heap.size = g8 at *
          clear hg8
          unfold opCells at HT8 HB
          generalize w1.alloc (.cells #[.string ⟨#[61]⟩, .string ⟨#[33, 61]⟩, .string ⟨#[60]⟩, .string ⟨#[60, 61]⟩, .string ⟨#[62]⟩, .string ⟨#[62, 61]⟩, .string ⟨#[38]⟩, .string ⟨#[38, 61]⟩] 9) = w4 at *
          refine wpAny_take (i := 16) (v := ?_) rfl (by kernel_rfl) (by kernel_rfl) (by kernel_rfl) (fun _ _ _ h => h) (Or.inl ⟨by kernel_rfl, ?_⟩) ?_
          rotate_left
          · intro w
            go_simp
            try (with_reducible rfl)
          refine wpAny_ready (rs := [12, 17]) (by kernel_rfl) (by simp) ?_
          refine (AllReady.cons rfl (fun K hK => ?_) (AllReady.cons rfl (fun K hK => ?_) AllReady.nil))
          · go_simp
            go_at_call 22
            refine (HNM.out _).mono ?_
            rintro e w5 ⟨rfl, hb⟩
            have HB := Lib.hid (HB.out.trans (hb.mono HB.out.size))
            have HT8 := Lib.hid (HT8.out.below hb)
            clear hb
            go_simp
            refine hK _ _ ?_
            clear hK K
            refine wpAny_ready (rs := [17]) (by kernel_rfl) (by simp) ?_
            refine (AllReady.cons rfl (fun K hK => ?_) AllReady.nil)
            have hc := (HT8.out.cell q).trans HOC.out
            go_simp
            refine hK _ _ ?_
            clear hK K hc
            refine wpAny_take (i := 18) (v := ?_) rfl (by kernel_rfl) (by kernel_rfl) (by kernel_rfl) (fun _ _ _ h => h) (Or.inl ⟨by kernel_rfl, ?_⟩) ?_
            rotate_left
            · intro w
              go_simp
              rw [if_neg (by first | omega | (simp only [ByteArray.size_append]; omega))]
            refine wpAny_take (i := 20) (v := ?_) rfl (by kernel_rfl) (by kernel_rfl) (by kernel_rfl) (fun _ _ _ h => h) (Or.inl ⟨by kernel_rfl, ?_⟩) ?_
            rotate_left
            · intro w
              go_simp
              rw [if_neg (by first | omega | (simp only [ByteArray.size_append]; omega))]
            refine wpAny_ready (rs := [21]) (by kernel_rfl) (by simp) ?_
            refine AllReady.cons rfl (fun K hK => ?_) AllReady.nil
            go_simp
            refine hK _ _ ?_
            clear hK K
            refine wpAny_ready (rs := [22]) (by kernel_rfl) (by simp) ?_
            refine AllReady.cons rfl (fun K hK => ?_) AllReady.nil
            go_simp
            refine hK _ _ ?_
            clear hK K
            refine wpAny_done (by kernel_rfl) ?_ _
            go_wp2_with fail
            go_meet
            exact texts_new HB.out HSZ.out
          · have hc := (HT8.out.cell q).trans HOC.out
            go_simp
            refine hK _ _ ?_
            clear hK K hc
            refine wpAny_ready (rs := [12]) (by kernel_rfl) (by simp) ?_
            refine (AllReady.cons rfl (fun K hK => ?_) AllReady.nil)
            go_simp
            go_at_call 22
            refine (HNM.out _).mono ?_
            rintro e w6 ⟨rfl, hb⟩
            have HB := Lib.hid (HB.out.trans (hb.mono HB.out.size))
            clear hb
            go_simp
            refine hK _ _ ?_
            clear hK K
            refine wpAny_take (i := 18) (v := ?_) rfl (by kernel_rfl) (by kernel_rfl) (by kernel_rfl) (fun _ _ _ h => h) (Or.inl ⟨by kernel_rfl, ?_⟩) ?_
            rotate_left
            · intro w
              go_simp
              rw [if_neg (by first | omega | (simp only [ByteArray.size_append]; omega))]
            refine wpAny_take (i := 20) (v := ?_) rfl (by kernel_rfl) (by kernel_rfl) (by kernel_rfl) (fun _ _ _ h => h) (Or.inl ⟨by kernel_rfl, ?_⟩) ?_
            rotate_left
            · intro w
              go_simp
              rw [if_neg (by first | omega | (simp only [ByteArray.size_append]; omega))]
            refine wpAny_ready (rs := [21]) (by kernel_rfl) (by simp) ?_
            refine AllReady.cons rfl (fun K hK => ?_) AllReady.nil
            go_simp
            refine hK _ _ ?_
            clear hK K
            refine wpAny_ready (rs := [22]) (by kernel_rfl) (by simp) ?_
            refine AllReady.cons rfl (fun K hK => ?_) AllReady.nil
            go_simp
            refine hK _ _ ?_
            clear hK K
            refine wpAny_done (by kernel_rfl) ?_ _
            go_wp2_with fail
            go_meet
            exact texts_new HB.out HSZ.out
      · go_simp
        refine hK _ _ ?_
        clear hK K
        have HT8 := Lib.hid (Blk.new w0 opCells 9)
        have HB := Lib.hid (HB.out.alloc HB.out.size (.cells opCells 9))
        generalize hg8 : w0.heap.size = g8 at *
        clear hg8
        unfold opCells at HT8 HB
        generalize w0.alloc (.cells #[.string ⟨#[61]⟩, .string ⟨#[33, 61]⟩, .string ⟨#[60]⟩, .string ⟨#[60, 61]⟩, .string ⟨#[62]⟩, .string ⟨#[62, 61]⟩, .string ⟨#[38]⟩, .string ⟨#[38, 61]⟩] 9) = w7 at *
        refine wpAny_take (i := 16) (v := ?_) rfl (by kernel_rfl) (by kernel_rfl) (by kernel_rfl) (fun _ _ _ h => h) (Or.inl ⟨by kernel_rfl, ?_⟩) ?_
        rotate_left
        · intro w
          go_simp
          try (with_reducible rfl)
        refine wpAny_ready (rs := [5, 17]) (by kernel_rfl) (by simp) ?_
        refine (AllReady.cons rfl (fun K hK => ?_) (AllReady.cons rfl (fun K hK => ?_) AllReady.nil))
        · go_simp
          go_at_call 22
          refine (HNM.out _).mono ?_
          rintro e w8 ⟨rfl, hb⟩
          have HB := Lib.hid (HB.out.trans (hb.mono HB.out.size))
          have HT8 := Lib.hid (HT8.out.below hb)
          clear hb
          go_simp
          refine hK _ _ ?_
          clear hK K
          refine wpAny_take (i := 7) (v := ?_) rfl (by kernel_rfl) (by kernel_rfl) (by kernel_rfl) (fun _ _ _ h => h) (Or.inl ⟨by kernel_rfl, ?_⟩) ?_
          rotate_left
          · intro w
            go_simp
            rw [if_neg (by first | omega | (simp only [ByteArray.size_append]; omega))]
          refine wpAny_ready (rs := [12, 17]) (by kernel_rfl) (by simp) ?_
          refine (AllReady.cons rfl (fun K hK => ?_) (AllReady.cons rfl (fun K hK => ?_) AllReady.nil))
          · go_simp
            go_at_call 22
            refine (HNM.out _).mono ?_
            rintro e w9 ⟨rfl, hb⟩
            have HB := Lib.hid (HB.out.trans (hb.mono HB.out.size))
            have HT8 := Lib.hid (HT8.out.below hb)
            clear hb
            go_simp
            refine hK _ _ ?_
            clear hK K
            refine wpAny_ready (rs := [17]) (by kernel_rfl) (by simp) ?_
            refine (AllReady.cons rfl (fun K hK => ?_) AllReady.nil)
            have hc := (HT8.out.cell q).trans HOC.out
            go_simp
            refine hK _ _ ?_
            clear hK K hc
            refine wpAny_take (i := 18) (v := ?_) rfl (by kernel_rfl) (by kernel_rfl) (by kernel_rfl) (fun _ _ _ h => h) (Or.inl ⟨by kernel_rfl, ?_⟩) ?_
            rotate_left
            · intro w
              go_simp
              rw [if_neg (by first | omega | (simp only [ByteArray.size_append]; omega))]
            refine wpAny_take (i := 20) (v := ?_) rfl (by kernel_rfl) (by kernel_rfl) (by kernel_rfl) (fun _ _ _ h => h) (Or.inl ⟨by kernel_rfl, ?_⟩) ?_
            rotate_left
            · intro w
              go_simp
              rw [if_neg (by first | omega | (simp only [ByteArray.size_append]; omega))]
            refine wpAny_ready (rs := [21]) (by kernel_rfl) (by simp) ?_
            refine AllReady.cons rfl (fun K hK => ?_) AllReady.nil
            go_simp
            refine hK _ _ ?_
            clear hK K
            refine wpAny_ready (rs := [22]) (by kernel_rfl) (by simp) ?_
            refine AllReady.cons rfl (fun K hK => ?_) AllReady.nil
            go_simp
            refine hK _ _ ?_
            clear hK K
            refine wpAny_done (by kernel_rfl) ?_ _
            go_wp2_with fail
            go_meet
            exact texts_new HB.out HSZ.out
          · have hc := (HT8.out.cell q).trans HOC.out
            go_simp
            refine hK _ _ ?_
            clear hK K hc
            refine wpAny_ready (rs := [12]) (by kernel_rfl) (by simp) ?_
            refine (AllReady.cons rfl (fun K hK => ?_) AllReady.nil)
            go_simp
            go_at_call 22
            refine (HNM.out _).mono ?_
            rintro e w10 ⟨rfl, hb⟩
            have HB := Lib.hid (HB.out.trans (hb.mono HB.out.size))
            clear hb
            go_simp
            refine hK _ _ ?_
            clear hK K
            refine wpAny_take (i := 18) (v := ?_) rfl (by kernel_rfl) (by kernel_rfl) (by kernel_rfl) (fun _ _ _ h => h) (Or.inl ⟨by kernel_rfl, ?_⟩) ?_
            rotate_left
            · intro w
              go_simp
              rw [if_neg (by first | omega | (simp only [ByteArray.size_append]; omega))]
            refine wpAny_take (i := 20) (v := ?_) rfl (by kernel_rfl) (by kernel_rfl) (by kernel_rfl) (fun _ _ _ h => h) (Or.inl ⟨by kernel_rfl, ?_⟩) ?_
            rotate_left
            · intro w
              go_simp
              rw [if_neg (by first | omega | (simp only [ByteArray.size_append]; omega))]
            refine wpAny_ready (rs := [21]) (by kernel_rfl) (by simp) ?_
            refine AllReady.cons rfl (fun K hK => ?_) AllReady.nil
            go_simp
            refine hK _ _ ?_
            clear hK K
            refine wpAny_ready (rs := [22]) (by kernel_rfl) (by simp) ?_
            refine AllReady.cons rfl (fun K hK => ?_) AllReady.nil
            go_simp
            refine hK _ _ ?_
            clear hK K
            refine wpAny_done (by kernel_rfl) ?_ _
            go_wp2_with fail
            go_meet
            exact texts_new HB.out HSZ.out
        · have hc := (HT8.out.cell q).trans HOC.out
          go_simp
          refine hK _ _ ?_
          clear hK K hc
          refine wpAny_ready (rs := [5]) (by kernel_rfl) (by simp) ?_
          refine (AllReady.cons rfl (fun K hK => ?_) AllReady.nil)
          go_simp
          go_at_call 22
          refine (HNM.out _).mono ?_
          rintro e w11 ⟨rfl, hb⟩
          have HB := Lib.hid (HB.out.trans (hb.mono HB.out.size))
          clear hb
          go_simp
          refine hK _ _ ?_
          clear hK K
          refine wpAny_take (i := 7) (v := ?_) rfl (by kernel_rfl) (by kernel_rfl) (by kernel_rfl) (fun _ _ _ h => h) (Or.inl ⟨by kernel_rfl, ?_⟩) ?_
          rotate_left
          · intro w
            go_simp
            rw [if_neg (by first | omega | (simp only [ByteArray.size_append]; omega))]
          refine wpAny_ready (rs := [12]) (by kernel_rfl) (by simp) ?_
          refine (AllReady.cons rfl (fun K hK => ?_) AllReady.nil)
          go_simp
          go_at_call 22
          refine (HNM.out _).mono ?_
          rintro e w12 ⟨rfl, hb⟩
          have HB := Lib.hid (HB.out.trans (hb.mono HB.out.size))
          clear hb
          go_simp
          refine hK _ _ ?_
          clear hK K
          refine wpAny_take (i := 18) (v := ?_) rfl (by kernel_rfl) (by kernel_rfl) (by kernel_rfl) (fun _ _ _ h => h) (Or.inl ⟨by kernel_rfl, ?_⟩) ?_
          rotate_left
          · intro w
            go_simp
            rw [if_neg (by first | omega | (simp only [ByteArray.size_append]; omega))]
          refine wpAny_take (i := 20) (v := ?_) rfl (by kernel_rfl) (by kernel_rfl) (by kernel_rfl) (fun _ _ _ h => h) (Or.inl ⟨by kernel_rfl, ?_⟩) ?_
          rotate_left
          · intro w
            go_simp
            rw [if_neg (by first | omega | (simp only [ByteArray.size_append]; omega))]
          refine wpAny_ready (rs := [21]) (by kernel_rfl) (by simp) ?_
          refine AllReady.cons rfl (fun K hK => ?_) AllReady.nil
          go_simp
          refine hK _ _ ?_
          clear hK K
          refine wpAny_ready (rs := [22]) (by kernel_rfl) (by simp) ?_
          refine AllReady.cons rfl (fun K hK => ?_) AllReady.nil
          go_simp
          refine hK _ _ ?_
          clear hK K
          refine wpAny_done (by kernel_rfl) ?_ _
          go_wp2_with fail
          go_meet
          exact texts_new HB.out HSZ.out
    case rest =>
      obtain ⟨g, cs, rfl, ht⟩ := hcut
      clear hq hp hq' hp' b0 b1 HNM HOC HSZ q0 p0 q8 p22 hf ho sN sZ
      go_wp2_with fail
      go_loopw [8] (fun i wr => ∃ k : Nat, k ≤ 3 ∧ i = .int .i64 (k : Int) ∧ Texts w wr g cs) (fun i _ => 3 - (intOf i).toNat)
      case atStart => exact ⟨0, by omega, rfl, ht⟩
      case round =>
        obtain ⟨k, hk, rfl, htx⟩ := hrel
        clear ht
        by_cases hlt : k < 3
        · obtain ⟨x, hx, hxs⟩ := htx.all k hlt
          have hc := (htx.blk.cell k).trans hx
          have HX := Lib.hid hx
          have HTX := Lib.hid htx
          have k0 : (0 : Int) ≤ (k : Int) := by omega
          have k3 : (k : Int) < 3 := by omega
          have hx6 : x.size ≤ 1000000 := by omega
          clear htx hx
          go_wp2_with fail
          refine (vparseF x hx6 _ (HFN.out _ HTX.out.low) (HFO.out _ HTX.out.low) (HE.out _ HTX.out.low)).mono ?_
          rintro e w6 ⟨fd, op, nu, tx, ot, er, rfl, hT1, hx1, hi1, hb6⟩
          have HT1 := Lib.hid hT1
          have ht6 := HTX.out.below hb6
          have HG0 := Blk.new w6 (testC 0 0 0 ⟨#[]⟩ 0) 23
          have HG1 := Lib.hid (HG0.row (testC fd op nu tx ot))
          have HT6 := Lib.hid (show Texts w ((w6.alloc (.cells (testC 0 0 0 ⟨#[]⟩ 0) 23)).setRow w6.heap.size (testC fd op nu tx ot)) g cs from ⟨(ht6.blk.alloc _).row_other _ (by have := ht6.blk.lt; omega), ht6.sz, ht6.all, below_row (ht6.low.alloc ht6.low.size _) ht6.low.size _⟩)
          have hc6 := (HT6.out.blk.cell k).trans HX.out
          clear hT1 hb6 ht6 HTX
          go_wp2_with ((with_reducible refine store_blk ?_ 23 (.tmp 9) (.tmp 51) ?_ HG0 (testC fd op nu tx ot) ?_ ?_ ?_ ?_ ?_ ?_); (iterate 4 rfl); (exact test_sz _ _ _ _ _); rfl; (exact test_one _ _ _ _ _))
          refine (rparseF x hx6 _).mono ?_
          rintro e w7 ⟨fd2, op2, nu2, tx2, ot2, er2, rfl, hT2, hx2, hi2, hb7⟩
          obtain ⟨e0, e1, e2, e3, e4, e5⟩ := hT2.unique HT1.out
          subst e0 e1 e2 e3 e4 e5
          have HG7 := HG1.out.below hb7
          have ht7 := HT6.out.below hb7
          have HH0 := Blk.new w7 (testC 0 0 0 ⟨#[]⟩ 0) 23
          have HG8 := (HG7.alloc (.cells (testC 0 0 0 ⟨#[]⟩ 0) 23)).row_other (testC fd2 op2 nu2 tx2 ot2) (show w6.heap.size ≠ w7.heap.size by have := HG7.lt; omega)
          have HH1 := HH0.row (testC fd2 op2 nu2 tx2 ot2)
          have HT8 := Lib.hid (show Texts w ((w7.alloc (.cells (testC 0 0 0 ⟨#[]⟩ 0) 23)).setRow w7.heap.size (testC fd2 op2 nu2 tx2 ot2)) g cs from ⟨(ht7.blk.alloc _).row_other _ (by have := ht7.blk.lt; omega), ht7.sz, ht7.all, below_row (ht7.low.alloc ht7.low.size _) ht7.low.size _⟩)
          obtain ⟨p0, p1, p2, p3, p4⟩ := test_cells HG8
          obtain ⟨r0, r1, r2, r3, r4⟩ := test_cells HH1
          clear hT2 hx2 hi2 hb7 HG7 ht7 HG8 HH1 HT1 HG1 HG0 HT6 hc6 hc hx1 hi1
          go_wp2_with ((with_reducible refine store_blk ?_ 23 (.tmp 11) (.tmp 59) ?_ HH0 (testC fd2 op2 nu2 tx2 ot2) ?_ ?_ ?_ ?_ ?_ ?_); (iterate 4 rfl); (exact test_sz _ _ _ _ _); rfl; (exact test_one _ _ _ _ _))
          go_roundw
          case rel => exact ⟨k + 1, by omega, by go_num, HT8.out⟩
          case measure => simp [intOf]; omega
        · have HTX := Lib.hid htx
          clear htx
          go_wp2_with fail
          refine (HAW.out _ HTX.out.low).mono ?_
          rintro e w8 ⟨rfl, hb8⟩
          go_wp2_with fail
          go_ret
          exact ⟨rfl, below_then HTX.out.low hb8⟩
end Go.Proofs.YtnpaoepkpdileaaDoor
