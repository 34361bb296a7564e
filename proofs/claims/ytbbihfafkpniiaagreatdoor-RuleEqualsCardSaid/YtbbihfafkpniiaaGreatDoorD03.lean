/- Texts of one proof, laid together. -/
import Derived.Test.YtbbihfafkpniiaaGreatDoorD01
import Derived.Test.YtbbihfafkpniiaaGreatDoorC11
import Derived.Deep.RegionLaw
import Derived.Deep.RegionWith
import Derived.Deep.DeepCutAuto
import Derived.Deep.CutBlock
import Derived.Maps.AppendAt
import Derived.Test.YtbbihfafkpniiaaGreatDoorD02
import Derived.Test.YtbbihfafkpniiaaGreatDoorC23
import Derived.Test.YtbbihfafkpniiaaGreatDoorE101
/- number, has, one of the reference. -/
namespace Go.Proofs.YtbbihfafkpniiaaGreatDoor
open Go.RowKit
abbrev procC (c : Ctx) (r : CRest) : Array Value := #[.int .i64 (c.p 0), .int .i64 (c.p 1), .int .i64 (c.p 2), .int .i64 (c.p 3), .int .i64 (c.p 4), .int .i64 (c.p 5), .int .i64 (c.p 6), .int .i64 (c.p 7), .int .i64 r.d, .int .i64 r.i, .string c.comm, .string c.exe, r.o.v, .bool r.u]
abbrev zeroP : Array Value := #[.int .i64 0, .int .i64 0, .int .i64 0, .int .i64 0, .int .i64 0, .int .i64 0, .int .i64 0, .int .i64 0, .int .i64 0, .int .i64 0, .string ⟨#[]⟩, .string ⟨#[]⟩, .slice none 0 0, .bool false]
attribute [local irreducible] ctxC itemC textB
end Go.Proofs.YtbbihfafkpniiaaGreatDoor
/- The source of numbers of package kauditmake: Clean, Identities. -/
namespace Go.Proofs.YtbbihfafkpniiaaGreatDoor
open Go.RowKit
set_option maxHeartbeats 1000000 in
theorem src_clean (w : World) (base g : Nat) (b : Int) (h : SrcOk w base g b) (hb : b ≤ 100000000000000) :
    Calls Tryz.prog 32 #[.pointer (some ⟨g, 0, none⟩)] w (SPost w base g (b + 4) 6) := by
  have H := Lib.hid h
  have HB := Lib.hid hb
  have hlt0 : g < w.heap.size := src_lt h
  clear h hb
  go_enter Tryz.func32, Tryz.ntmps32
  go_wp2_with fail
  refine (src_pick _ base g w.heap.size b 5 1 3 _ 3 (0, 0) (H.out.alloc _) (by have := HB.out; omega) (heap_alloc_new w _) (by omega) rfl (by omega) (by omega) rfl).mono ?_
  rintro e w1 ⟨x, rfl, hx0, hx1, hs, hg⟩
  obtain ⟨k0, rfl⟩ := Int.eq_ofNat_of_zero_le (show 0 ≤ x by omega)
  have HS := Lib.hid hs
  have hgf := (only_alloc (World.grownBy.refl w (some g)) (.cells #[.int .i64 1, .int .i64 1, .int .i64 2, .int .i64 2, .int .i64 3] 3)).trans hg
  clear hs hg
  go_wp2_with fail
  go_loopw [3, 4] (fun v i wr => ∃ (T : ByteArray) (k : Nat), v = .string T ∧ i = .int .i64 (k : Int) ∧ T.size + 2 * k ≤ 6 ∧ w.grownBy wr (some g) ∧ Hid (SrcOk wr base g (b + 4 - k))) (fun _ i _ => (intOf i).toNat)
  case atStart => exact ⟨⟨#[]⟩, k0, rfl, rfl, by show 0 + 2 * k0 ≤ 6; omega, hgf, HS.out.more (by omega)⟩
  case round =>
    obtain ⟨T, k, rfl, rfl, hT, hgr, hsr⟩ := hrel
    clear hgf HS hx0 hx1
    by_cases hk : 0 < k
    · have hk1 : (0 : Int) < (k : Int) := by omega
      have hT4 : T.size ≤ 6 := by omega
      have hlt : g < wr.heap.size := src_lt hsr.out
      go_wp2_with fail
      refine (src_word _ base g wr.heap.size (b + 4 - k) 5 1 _ 9 (0, 0) (hsr.out.alloc _) (by have := HB.out; omega) (heap_alloc_new wr _) (by omega) rfl (by omega) (by omega) rfl).mono ?_
      rintro e w2 ⟨y, rfl, hym, hs2, hg2⟩
      have HS2 := Lib.hid hs2
      have hgf := (only_alloc hgr _).trans hg2
      have z1 : ((⟨#[47]⟩ : ByteArray) ++ y).size ≤ 2 := by rw [ByteArray.size_append]; show 1 + y.size ≤ 2; omega
      clear hs2 hg2
      go_wp2_with fail
      go_roundw
      case rel => exact ⟨_, k - 1, rfl, by go_num, by rw [ByteArray.size_append]; omega, hgf, HS2.out.more (by omega)⟩
      case measure => simp [intOf]; omega
    · go_wp2_with fail
      go_ret
      exact ⟨_, rfl, by omega, hsr.out.more (by omega), hgr⟩
/-- What Identities makes. -/
abbrev idC (p : Nat → Int) (comm exe : ByteArray) (au : Bool) : Array Value := #[.int .i64 (p 0), .int .i64 (p 1), .int .i64 (p 2), .int .i64 (p 3), .int .i64 (p 4), .int .i64 (p 5), .int .i64 (p 6), .int .i64 (p 7), .int .i64 0, .int .i64 0, .string comm, .string exe, .slice none 0 0, .bool au]
def IdPost (w : World) (base g : Nat) (b : Int) (e : Ending) (w' : World) : Prop := ∃ (p : Nat → Int) (comm exe : ByteArray) (au : Bool), e = .returned (.agg (idC p comm exe au)) ∧ comm.size ≤ 5 ∧ exe.size ≤ 5 ∧ SrcOk w' base g b ∧ w.grownBy w' (some g)
def pOf (a b c d e f g h : Int) : Nat → Int := fun j => if j = 0 then a else if j = 1 then b else if j = 2 then c else if j = 3 then d else if j = 4 then e else if j = 5 then f else if j = 6 then g else h
theorem id_one (p : Nat → Int) (comm exe : ByteArray) (au : Bool) : (idC p comm exe au).all (·.oneCell') = true := by simp [Value.oneCell']
end Go.Proofs.YtbbihfafkpniiaaGreatDoor
/- append of one test to tests of the call's own. -/
namespace Go.Proofs.YtbbihfafkpniiaaGreatDoor
open Go.RowKit
theorem row_newT (w : World) (cs : Array Value) (t : TypeId) (j : Nat) (u : Value) (h : cs.toList[j]? = some u) : (w.alloc (.cells cs t)).cell? ((⟨w.heap.size, 0, none⟩ : Addr).add j) = some u := by
  rw [addT_zero, (Blk.new w cs t).cell]
  simpa using h
theorem run_append_tst (w : World) (base : Nat) (ty : TypeId) (v : Value) (L : List Tst) (ad : Addr) (t : Tst) (hown : OwnT w base v L) (hr : ∀ j u, (tstC t).toList[j]? = some u → w.cell? (ad.add j) = some u) (hlen : L.length ≤ 1000000) (hbase : base ≤ w.heap.size) :
    ∃ v' w', (Builtin.append_ #[24, 24] ty #[v, .slice (some ad) 1 1]).run Tryz.prog w = .ok v' w' ∧ OwnT w' base v' (L ++ [t]) ∧ w.grownBy w' v.ownBlock ∧ (v'.ownBlock = v.ownBlock ∨ v'.ownBlock = some w.heap.size) := by
  obtain ⟨i0, hi, hz0, hz1, hz2⟩ := info_parts Tryz.infoT
  obtain ⟨v', w', hrun, h2, h3, _, h4⟩ := run_append_own_at (P := Tryz.prog) w base 24 ty 40 i0 _ 5 48 Tryz.underlying24 hi hz0 hz1 hz2 rfl (by omega) v L.length _ hown ad 1 1 (tstC t).toList rfl hr (by
      intro u hu
      have := tst_one t
      rw [← Array.all_toList, List.all_eq_true] at this
      exact this u hu) (by unfold maxLen; omega) (by omega) hbase
  refine ⟨v', w', hrun, ?_, h3, h4⟩
  show w'.ownsRow base 40 5 v' (L ++ [t]).length ((L ++ [t]).flatMap fun t => (tstC t).toList)
  rw [List.length_append, List.flatMap_append]
  simpa using h2
theorem step_append_tst {ops : Array Oper} {o : Oper} {a : Act} {w : World} {K : Act → World → Prop} {Q : Exit → Act → World → Prop} {E : Prop} (hgd : o.guard = none) (s x : Operand) (ho : o.op = .call { callee := .builtin .append, args := #[s, x], argTypes := #[24, 24] })
    (base : Nat) (v : Value) (L : List Tst) (hs : a.eval s = v) (hown : OwnT w base v L) (ad : Addr) (t : Tst) (hx : a.eval x = .slice (some ad) 1 1) (hr : ∀ j u, (tstC t).toList[j]? = some u → w.cell? (ad.add j) = some u) (hlen : L.length ≤ 1000000) (hbase : base ≤ w.heap.size)
    (h : ∀ v' w', OwnT w' base v' (L ++ [t]) → w.grownBy w' v.ownBlock → (v'.ownBlock = v.ownBlock ∨ v'.ownBlock = some w.heap.size) → K (a.put o.dst v') w') :
    if Region.wanted o (yielded ops a.tmps) = true then Oper.wp Tryz.prog o a w K Q else E := by
  have hw : Region.wanted o (yielded ops a.tmps) = true := by simp [Region.wanted, hgd]
  rw [if_pos hw]
  obtain ⟨v', w', hrun, h2, h3, h4⟩ := run_append_tst w base o.type v L ad t hown hr hlen hbase
  unfold Oper.wp execOp
  simp only [ho, resolve, invoke, builtin, Sem.run_bind, Sem.run_pure, Result.andThen_ok, List.map_toArray, List.map_cons, List.map_nil, hs, hx, hrun]
  exact h v' w' h2 h3 h4
end Go.Proofs.YtbbihfafkpniiaaGreatDoor
/- The source of numbers of package kauditmake: Rule. -/
namespace Go.Proofs.YtbbihfafkpniiaaGreatDoor
open Go.RowKit
/-- Bounds of a rule that is made. -/
structure MkR (r : Rul) : Prop where
  ca : r.ca < 18446744073709551616
  pa : r.pa.size ≤ 10
  ke : r.ke.size ≤ 10
  ts : ∀ t ∈ r.ts, (-13 ≤ t.nu ∧ t.nu ≤ 4294967295) ∧ t.tx.size ≤ 5
/-- What Rule keeps: the source, the rule so far and its tests, the block of the result. -/
structure Ru1 (w wr : World) (base g : Nat) (b : Int) (gc : Nat) (r : Rul) (tv : Value) : Prop where
  only : w.grownBy wr (some g)
  src : SrcOk wr base g b
  rb : RulB wr w.heap.size zeroR noT
  cb : RulB wr gc r tv
  own : OwnT wr (gc + 1) tv r.ts
  fit : MkR r
  h2 : w.heap.size < gc
  h3 : g < w.heap.size
  h4 : base ≤ w.heap.size
section
variable {w wr w' : World} {base g gc : Nat} {b b' : Int} {r r' : Rul} {tv : Value}
theorem Ru1.alloc (h : Ru1 w wr base g b gc r tv) (o : Obj) : Ru1 w (wr.alloc o) base g b gc r tv := ⟨only_alloc h.only o, h.src.alloc o, Blk.alloc h.rb o, Blk.alloc h.cb o, h.own.alloc o, h.fit, h.h2, h.h3, h.h4⟩
theorem Ru1.drew (h : Ru1 w wr base g b gc r tv) : Ru1 w wr.drew base g b gc r tv := ⟨⟨h.only.os, h.only.tape, h.only.output, h.only.size, h.only.block⟩, h.src.drew, h.rb, h.cb, h.own, h.fit, h.h2, h.h3, h.h4⟩
theorem Ru1.step (h : Ru1 w wr base g b gc r tv) (hs : SrcOk w' base g b') (hg : wr.grownBy w' (some g)) : Ru1 w w' base g b' gc r tv :=
  ⟨h.only.trans hg, hs, Blk.grown h.rb hg (fun e => by injection e with e; have := h.h3; omega), Blk.grown h.cb hg (fun e => by injection e with e; have := h.h2; have := h.h3; omega), h.own.only hg (by have := h.h2; have := h.h3; omega), h.fit, h.h2, h.h3, h.h4⟩
theorem Ru1.more (h : Ru1 w wr base g b gc r tv) (hb : b ≤ b') : Ru1 w wr base g b' gc r tv := ⟨h.only, h.src.more hb, h.rb, h.cb, h.own, h.fit, h.h2, h.h3, h.h4⟩
theorem Ru1.lt (h : Ru1 w wr base g b gc r tv) : g < wr.heap.size := src_lt h.src
theorem Ru1.put (h : Ru1 w wr base g b gc r tv) (i : Nat) (v : Value) (e : (rulC r tv).setIfInBounds i v = rulC r' tv) (ht : r'.ts = r.ts) (hm : MkR r') : Ru1 w (wr.setCell ⟨gc, i, none⟩ v) base g b gc r' tv := by
  have h2 := h.h2
  have h3 := h.h3
  have h4 := h.h4
  have hx := Blk.put h.cb i v
  rw [e] at hx
  exact ⟨only_setCell h.only (.inr (by show w.heap.size ≤ gc; omega)) _, h.src.setCell (by show base ≤ gc; omega) (by show gc ≠ g; omega) _, Blk.put_other h.rb _ (by show w.heap.size ≠ gc; omega), hx, by rw [ht]; exact h.own.setCell (by show gc < gc + 1; omega) _, hm, h2, h3, h4⟩
theorem Ru1.li (h : Ru1 w wr base g b gc r tv) (v : Int) : Ru1 w (wr.setCell ⟨gc, 0, none⟩ (.int .i64 v)) base g b gc { r with li := v } tv := h.put 0 _ rfl rfl ⟨h.fit.ca, h.fit.pa, h.fit.ke, h.fit.ts⟩
theorem Ru1.ac (h : Ru1 w wr base g b gc r tv) (v : Int) : Ru1 w (wr.setCell ⟨gc, 1, none⟩ (.int .i64 v)) base g b gc { r with ac := v } tv := h.put 1 _ rfl rfl ⟨h.fit.ca, h.fit.pa, h.fit.ke, h.fit.ts⟩
theorem Ru1.ca (h : Ru1 w wr base g b gc r tv) (v : Nat) (hv : v < 18446744073709551616) : Ru1 w (wr.setCell ⟨gc, 2, none⟩ (.int .u64 (v : Int))) base g b gc { r with ca := v } tv := h.put 2 _ rfl rfl ⟨hv, h.fit.pa, h.fit.ke, h.fit.ts⟩
theorem Ru1.wa (h : Ru1 w wr base g b gc r tv) (v : Int) : Ru1 w (wr.setCell ⟨gc, 4, none⟩ (.int .i64 v)) base g b gc { r with wa := v } tv := h.put 4 _ rfl rfl ⟨h.fit.ca, h.fit.pa, h.fit.ke, h.fit.ts⟩
theorem Ru1.pa (h : Ru1 w wr base g b gc r tv) (v : ByteArray) (hv : v.size ≤ 10) : Ru1 w (wr.setCell ⟨gc, 5, none⟩ (.string v)) base g b gc { r with pa := v } tv := h.put 5 _ rfl rfl ⟨h.fit.ca, hv, h.fit.ke, h.fit.ts⟩
theorem Ru1.pe (h : Ru1 w wr base g b gc r tv) (v : Int) : Ru1 w (wr.setCell ⟨gc, 6, none⟩ (.int .i64 v)) base g b gc { r with pe := v } tv := h.put 6 _ rfl rfl ⟨h.fit.ca, h.fit.pa, h.fit.ke, h.fit.ts⟩
/-- A test has been appended; the slice is stored. -/
theorem Ru1.app (h : Ru1 w wr base g b gc r tv) (t : Tst) (ht : (-13 ≤ t.nu ∧ t.nu ≤ 4294967295) ∧ t.tx.size ≤ 5) {v' : Value} (hg : wr.grownBy w' tv.ownBlock) (ho : OwnT w' (gc + 1) v' (r.ts ++ [t])) :
    RulB w' gc r tv ∧ Ru1 w (w'.setCell ⟨gc, 3, none⟩ v') base g b gc { r with ts := r.ts ++ [t] } v' := by
  have h2 := h.h2
  have h3 := h.h3
  have h4 := h.h4
  have hge := h.own.ge
  have hr : ∀ k, tv.ownBlock = some k → gc < k := fun k hk => by have := hge k hk; omega
  have cb : RulB w' gc r tv := Blk.grown h.cb hg (fun e => by have := hr _ e; omega)
  refine ⟨cb, only_setCell ⟨hg.os.trans h.only.os, hg.tape.trans h.only.tape, hg.output.trans h.only.output, Nat.le_trans h.only.size hg.size, fun i hi hne => (hg.block i (Nat.lt_of_lt_of_le hi h.only.size) (fun e => by have := hr _ e.symm; omega)).trans (h.only.block i hi hne)⟩ (.inr (by show w.heap.size ≤ gc; omega)) _,
    (h.src.grown hg (fun k e => by have := hr k e; omega)).setCell (by show base ≤ gc; omega) (by show gc ≠ g; omega) _, Blk.put_other (Blk.grown h.rb hg (fun e => by have := hr _ e; omega)) _ (by show w.heap.size ≠ gc; omega), Blk.put cb 3 v', ho.setCell (by show gc < gc + 1; omega) _, ⟨h.fit.ca, h.fit.pa, h.fit.ke, fun u hu => ?_⟩, h2, h3, h4⟩
  rcases List.mem_append.1 hu with hu | hu
  · exact h.fit.ts u hu
  · rw [List.mem_singleton.1 hu]; exact ht
theorem tv_slice (h : Ru1 w wr base g b gc r tv) : ∃ A c, tv = .slice A r.ts.length c := by
  obtain ⟨A, c, e, _⟩ := h.own.tests
  exact ⟨A, c, e⟩
end
def SRulePost (w : World) (base g : Nat) (b : Int) (e : Ending) (w' : World) : Prop :=
  ∃ (r : Rul) (T : Option Addr) (n c : Nat), e = .returned (rulV r (.slice T n c)) ∧ n = r.ts.length ∧ n ≤ 3 ∧ MkR r ∧ OwnT w' (w.heap.size + 1) (.slice T n c) r.ts ∧ SrcOk w' base g b ∧ w.grownBy w' (some g)
set_option maxRecDepth 100000 in
set_option maxHeartbeats 16000000 in
theorem src_rule (w : World) (base g : Nat) (b : Int) (h : SrcOk w base g b) (hb : b ≤ 100000000000) :
    Calls Tryz.prog 14 #[.pointer (some ⟨g, 0, none⟩)] w (SRulePost w base g (b + 200)) := by
  have HB := Lib.hid hb
  have hlt0 : g < w.heap.size := src_lt h
  have hbase : base ≤ w.heap.size := by have := h.1; omega
  have HS0 := Lib.hid (h.alloc (.cells (rulC zeroR noT) 26))
  have HO0 := Lib.hid (only_alloc (World.grownBy.refl w (some g)) (.cells (rulC zeroR noT) 26))
  have HZ0 := Lib.hid (Blk.new w (rulC zeroR noT) 26)
  clear h hb
  go_enter Tryz.func14, Tryz.ntmps14
  go_wp2_with fail
  refine (src_pick _ base g (w.heap.size + 1) b 10 1 5 _ 3 (0, 0) (HS0.out.alloc _) (by have := HB.out; omega) (by have := heap_alloc_new (w.alloc (.cells (rulC zeroR noT) 26)) (.cells #[.int .i64 3, .int .i64 3, .int .i64 3, .int .i64 3, .int .i64 2, .int .i64 2, .int .i64 1, .int .i64 4, .int .i64 5, .int .i64 5] 3); simpa using this) (by omega) rfl (by omega) (by omega) rfl).mono ?_
  rintro e w1 ⟨li, rfl, l0, l1, hs, hg⟩
  have HS1 := Lib.hid hs
  have HO1 := Lib.hid ((only_alloc HO0.out _).trans hg)
  have HZ1 := Lib.hid ((HZ0.out.alloc _).grown hg (fun e => by injection e with e; omega))
  have hlt1 := HZ1.out.lt
  clear hs hg HS0 HO0 HZ0
  go_wp2_with fail
  refine (src_pick _ base g w1.heap.size (b + 1) 3 1 2 _ 3 (0, 0) (HS1.out.alloc _) (by have := HB.out; omega) (heap_alloc_new w1 _) (by omega) rfl (by omega) (by omega) rfl).mono ?_
  rintro e w2 ⟨ac, rfl, a0, a1, hs, hg⟩
  have HS2 := Lib.hid hs
  have HO2 := Lib.hid ((only_alloc HO1.out _).trans hg)
  have HZ2 := Lib.hid ((HZ1.out.alloc _).grown hg (fun e => by injection e with e; omega))
  have hlt2 := HZ2.out.lt
  clear hs hg HS1 HO1 HZ1 hlt1
  go_wp2_with fail
  refine (src_word _ base g w2.heap.size (b + 1 + 1) 4 3 _ 9 (0, 0) (HS2.out.alloc _) (by have := HB.out; omega) (heap_alloc_new w2 _) (by omega) rfl (by omega) (by omega) rfl).mono ?_
  rintro e w3 ⟨ke, rfl, hke, hs, hg⟩
  have HO3 := Lib.hid ((only_alloc HO2.out _).trans hg)
  have HZ3 := Lib.hid ((HZ2.out.alloc _).grown hg (fun e => by injection e with e; omega))
  have hlt3 := HZ3.out.lt
  have st0 : Ru1 w (w3.alloc (.cells (rulC ⟨li, ac, 0, [], 0, ⟨#[]⟩, 0, ke⟩ noT) 26)) base g (b + 3) w3.heap.size ⟨li, ac, 0, [], 0, ⟨#[]⟩, 0, ke⟩ noT :=
    ⟨only_alloc HO3.out _, (hs.alloc _).more (by omega), HZ3.out.alloc _, Blk.new w3 _ _, OwnT.nil _ _, ⟨by show 0 < _; omega, by show 0 ≤ 10; omega, by show ke.size ≤ 10; omega, fun t ht => by cases ht⟩, hlt3, hlt0, hbase⟩
  have ST0 := Lib.hid st0
  clear hs hg HS2 HO2 HZ2 HO3 HZ3 hlt2 hlt3 st0
  go_upto_region 2 with (fail)
  generalize w3.heap.size = gc at *
  generalize w3.alloc (.cells (rulC ⟨li, ac, 0, [], 0, ⟨#[]⟩, 0, ke⟩ noT) 26) = w4 at *
  generalize hr0 : (⟨li, ac, 0, [], 0, ⟨#[]⟩, 0, ke⟩ : Rul) = r0 at *
  have HT0 := Lib.hid (show r0.ts = [] by rw [← hr0])
  clear hr0 l0 l1 a0 a1 hke
  have hlt := ST0.out.lt
  go_cut [22] (fun v wx => (∃ t : Bool, v = .bool t) ∧ wx = w4)
  case first =>
    have c0 := RulB.c0 ST0.out.cb
    by_cases h2 : r0.li = 2
    · have t2 : (r0.li == 2) = true := by simpa using h2
      clear h2
      go_wp2_with fail
      go_meet
      exact ⟨⟨_, rfl⟩, rfl⟩
    · have t2 : (r0.li == 2) = false := by simpa using h2
      clear h2
      go_wp2_with fail
      go_meet
      exact ⟨⟨_, rfl⟩, rfl⟩
  case rest =>
  obtain ⟨⟨t, rfl⟩, rfl⟩ := hcut
  go_upto_if 22 with (fail)
  go_cut [] (fun wx => ∃ r, Ru1 w wx base g (b + 60) gc r noT ∧ r.ts = [])
  case first =>
    cases t
    · go_wp2_with fail
      go_meet
      exact ⟨r0, ST0.out.more (by omega), HT0.out⟩
    · go_wp2_with fail
      refine (src_mask _ base g (b + 3) ST0.out.src (by have := HB.out; omega)).mono ?_
      rintro e w5 ⟨k, rfl, hk, hs, hg⟩
      have st5 := ST0.out.step hs hg
      have c2 := RulB.c2 st5.cb
      have f2 := st5.cb.free 2
      have ST6 := Lib.hid (st5.ca k hk)
      clear hs hg st5
      go_wp2_with fail
      clear c2 f2
      refine (src_n _ base g (b + 3 + 40) 3 ST6.out.src (by have := HB.out; omega) (by omega) (by omega)).mono ?_
      rintro e w7 ⟨y, rfl, y0, y1, hs, hg⟩
      have ST7 := Lib.hid (ST6.out.step hs hg)
      have hlt7 := ST7.out.lt
      have c2 := RulB.c2 ST7.out.cb
      have f2 := ST7.out.cb.free 2
      clear hs hg ST6
      by_cases hy : 0 < y
      · have ST8 := Lib.hid (ST7.out.ca 4294967295 (by omega))
        have c2' : (w7.setCell ⟨gc, 2, none⟩ (.int .u64 4294967295)).cell? ⟨gc, 2, none⟩ = some (.int .u64 4294967295) := RulB.c2 ST8.out.cb
        go_wp2_with fail
        go_meet
        exact ⟨_, ST8.out.more (by omega), HT0.out⟩
      · by_cases hk0 : k = 0
        · have t0 : ((k : Int) == 0) = true := by simpa using hk0
          have ST8 := Lib.hid (ST7.out.ca 1 (by omega))
          clear hk0
          go_wp2_with fail
          go_meet
          exact ⟨_, ST8.out.more (by omega), HT0.out⟩
        · have t0 : ((k : Int) == 0) = false := by simpa using hk0
          clear hk0
          go_wp2_with fail
          go_meet
          exact ⟨_, ST7.out.more (by omega), HT0.out⟩
  case rest =>
  obtain ⟨r1, st1, ht1⟩ := hcut
  have ST1 := Lib.hid st1
  have HT1 := Lib.hid ht1
  clear st1 ht1 ST0 HT0 hlt
  have hlt := ST1.out.lt
  go_wp2_with fail
  refine (src_pick _ base g wc.heap.size (b + 60) 6 0 3 _ 3 (0, 0) (ST1.out.src.alloc _) (by have := HB.out; omega) (heap_alloc_new wc _) (by omega) rfl (by omega) (by omega) rfl).mono ?_
  rintro e w8 ⟨m, rfl, m0, m1, hs, hg⟩
  have st8 := (ST1.out.alloc (.cells #[.int .i64 0, .int .i64 0, .int .i64 1, .int .i64 1, .int .i64 2, .int .i64 3] 3)).step hs hg
  obtain ⟨kn, rfl⟩ := Int.eq_ofNat_of_zero_le m0
  have ST8 := Lib.hid st8
  clear hs hg st8 ST1 m0 hlt
  go_wp2_with fail
  go_loopw [4] (fun i wr => ∃ (k : Nat) (r : Rul) (tv : Value), i = .int .i64 (k : Int) ∧ r.ts.length + k ≤ 3 ∧ Ru1 w wr base g (b + 61 + 20 * r.ts.length) gc r tv) (fun i _ => (intOf i).toNat)
  case atStart => exact ⟨kn, r1, noT, rfl, by rw [HT1.out]; simp; omega, by rw [HT1.out]; exact ST8.out.more (by simp; omega)⟩
  case round =>
    obtain ⟨k, r, tv, rfl, hlen, hst⟩ := hrel
    clear ST8 m1
    by_cases hk : 0 < k
    · have hk1 : (0 : Int) < (k : Int) := by omega
      have q3 := RulB.c3 hst.cb
      have q0 := RulB.c0 hst.cb
      have hgc := hst.cb.lt
      go_wp2_with fail
      go_region_law
        (first
          | (go_simp; go_at_call 20; refine (src_test _ base g (b + 61 + 20 * r.ts.length) r.li (by exact hst.src.drew) (by have := HB.out; omega)).mono ?_; rintro e w13 ⟨fd, op, nu, tx, ot, rfl, hnu, htx, hs3, hg3⟩; have st3 := hst.drew.step hs3 hg3; have qA := RulB.c3 st3.cb; have qC := RulB.c3 (st3.alloc (.cells (testC fd op nu tx ot) 40)).cb; go_simp)
          | (refine step_append_tst (by rfl) (.tmp 42) (.tmp 47) (by rfl) (gc + 1) tv r.ts (by rfl) (by exact (st3.alloc _).own) ⟨w13.heap.size, 0, none⟩ ⟨fd, op, nu, tx, ot⟩ (by rfl) (by exact row_newT w13 (testC fd op nu tx ot) 40) (by omega) (by have := st3.cb.lt; simp; omega) ?_; intro v4 w4 own4 hg4 hat4; obtain ⟨g4, c4, hv4⟩ := Joins.ownsRow_form own4 (by simp); subst hv4; obtain ⟨cb4, st4⟩ := (st3.alloc (.cells (testC fd op nu tx ot) 40)).app ⟨fd, op, nu, tx, ot⟩ ⟨hnu, htx⟩ hg4 own4; have qB := RulB.c3 cb4; have fB := cb4.free 3))
      all_goals
        simp only [List.length_append, List.length_cons, List.length_nil, Nat.zero_add] at st4
        have ST4 := Lib.hid st4
        clear q3 q0 qA qB qC fB cb4 own4 st3 st4 hst hg3 hs3 hg4 hat4
        go_wp2_with fail
        go_roundw
        case rel => exact ⟨k - 1, { r with ts := r.ts ++ [⟨fd, op, nu, tx, ot⟩] }, _, by go_num, by show (r.ts ++ [_]).length + (k - 1) ≤ 3; rw [List.length_append, List.length_singleton]; omega, ST4.out.more (by show _ ≤ b + 61 + 20 * (((r.ts ++ [_]).length : Nat) : Int); rw [List.length_append, List.length_singleton]; omega)⟩
        case measure => simp [intOf]; omega
    · obtain rfl : k = 0 := by omega
      have ST := Lib.hid hst
      have HL3 := Lib.hid (show r.ts.length ≤ 3 by omega)
      obtain ⟨T, c, rfl⟩ := tv_slice hst
      have HSB := Lib.hid (hst.more (b' := b + 130) (by omega))
      clear hst hlen ST
      have hlt := HSB.out.lt
      have c0 := RulB.c0 HSB.out.cb
      generalize hn : r.ts.length = n at *
      have HN := Lib.hid hn
      clear hn
      go_upto_region 12 with (fail)
      go_cut [57] (fun v wx => (∃ t : Bool, v = .bool t) ∧ Ru1 w wx base g (b + 131) gc r (.slice T n c))
      case first =>
        by_cases h3 : r.li = 3
        · have t3 : (r.li == 3) = true := by simpa using h3
          clear h3
          go_wp2_with fail
          refine (src_n _ base g (b + 130) 3 HSB.out.src (by have := HB.out; omega) (by omega) (by omega)).mono ?_
          rintro e w9 ⟨y, rfl, y0, y1, hs, hg⟩
          have ST9 := Lib.hid (HSB.out.step hs hg)
          clear hs hg
          go_wp2_with fail
          go_meet
          exact ⟨⟨_, rfl⟩, ST9.out.more (by omega)⟩
        · have t3 : (r.li == 3) = false := by simpa using h3
          clear h3
          go_wp2_with fail
          go_meet
          exact ⟨⟨_, rfl⟩, HSB.out.more (by omega)⟩
      case rest =>
      obtain ⟨⟨t, rfl⟩, st⟩ := hcut
      have ST := Lib.hid st
      clear st c0 HSB
      go_upto_if 57 with (fail)
      go_cut [] (fun wx => ∃ q, Ru1 w wx base g (b + 150) gc q (.slice T n c) ∧ q.ts = r.ts)
      case first =>
        cases t
        · go_wp2_with fail
          go_meet
          exact ⟨r, ST.out.more (by omega), rfl⟩
        · go_wp2_with fail
          refine (src_range _ base g (b + 131) 1 2 ST.out.src (by have := HB.out; omega) (by omega) (by omega) (by omega)).mono ?_
          rintro e w9 ⟨wa, rfl, _, _, hs, hg⟩
          have ST9 := Lib.hid (ST.out.step hs hg)
          clear hs hg
          go_wp2_with fail
          refine (src_clean _ base g (b + 131 + 1) ST9.out.src (by have := HB.out; omega)).mono ?_
          rintro e w10 ⟨pa, rfl, hpa, hs, hg⟩
          have ST10 := Lib.hid (ST9.out.step hs hg)
          have HPA := Lib.hid (show pa.size ≤ 10 by omega)
          clear hs hg ST9 hpa
          go_wp2_with fail
          refine (src_range _ base g (b + 131 + 1 + 4) 1 15 ST10.out.src (by have := HB.out; omega) (by omega) (by omega) (by omega)).mono ?_
          rintro e w11 ⟨pe, rfl, _, _, hs, hg⟩
          have st11 := ST10.out.step hs hg
          have c4 := RulB.c4 st11.cb
          have c5 := RulB.c5 st11.cb
          have c6 := RulB.c6 st11.cb
          have f4 := st11.cb.free 4
          have f5 := st11.cb.free 5
          have f6 := st11.cb.free 6
          have ST12 := Lib.hid (((st11.wa wa).pa pa HPA.out).pe pe)
          clear hs hg ST10 st11
          go_wp2_with fail
          clear c4 c5 c6 f4 f5 f6
          refine (src_n _ base g (b + 131 + 1 + 4 + 1) 8 ST12.out.src (by have := HB.out; omega) (by omega) (by omega)).mono ?_
          rintro e w13 ⟨y, rfl, y0, y1, hs, hg⟩
          have ST13 := Lib.hid (ST12.out.step hs hg)
          clear hs hg ST12
          by_cases h7 : y = 7
          · have t7 : (y == 7) = true := by simpa using h7
            have c5 := RulB.c5 ST13.out.cb
            have f5 := ST13.out.cb.free 5
            have ST14 := Lib.hid (ST13.out.pa ⟨#[47]⟩ (by show 1 ≤ 10; omega))
            clear h7
            go_wp2_with fail
            go_meet
            exact ⟨_, ST14.out.more (by omega), rfl⟩
          · have t7 : (y == 7) = false := by simpa using h7
            clear h7
            go_wp2_with fail
            go_meet
            exact ⟨_, ST13.out.more (by omega), rfl⟩
      case rest =>
      obtain ⟨q, st, hq⟩ := hcut
      have ST2 := Lib.hid st
      have HQ := Lib.hid hq
      clear st hq ST
      go_wp2_with fail
      refine (src_n _ base g (b + 150) 24 ST2.out.src (by have := HB.out; omega) (by omega) (by omega)).mono ?_
      rintro e w13 ⟨y, rfl, y0, y1, hs, hg⟩
      have ST3 := Lib.hid (ST2.out.step hs hg)
      clear hs hg ST2
      go_upto_if 73 with (fail)
      go_cut [] (fun wx => ∃ p, Ru1 w wx base g (b + 160) gc p (.slice T n c) ∧ p.ts = r.ts)
      case first =>
        by_cases h7 : y = 23
        · have t7 : (y == 23) = true := by simpa using h7
          clear h7
          go_wp2_with fail
          refine (src_range _ base g (b + 150 + 1) (-1) 16 ST3.out.src (by have := HB.out; omega) (by omega) (by omega) (by omega)).mono ?_
          rintro e w14 ⟨pe, rfl, _, _, hs, hg⟩
          have ST4 := Lib.hid (ST3.out.step hs hg)
          clear hs hg
          go_wp2_with fail
          refine (src_range _ base g (b + 150 + 1 + 1) 0 6 ST4.out.src (by have := HB.out; omega) (by omega) (by omega) (by omega)).mono ?_
          rintro e w15 ⟨li, rfl, _, _, hs, hg⟩
          have ST5 := Lib.hid (ST4.out.step hs hg)
          clear hs hg ST4
          go_wp2_with fail
          refine (src_range _ base g (b + 150 + 1 + 1 + 1) 0 3 ST5.out.src (by have := HB.out; omega) (by omega) (by omega) (by omega)).mono ?_
          rintro e w16 ⟨ac, rfl, _, _, hs, hg⟩
          have st6 := ST5.out.step hs hg
          have c0 := RulB.c0 st6.cb
          have c1 := RulB.c1 st6.cb
          have c6 := RulB.c6 st6.cb
          have f0 := st6.cb.free 0
          have f1 := st6.cb.free 1
          have f6 := st6.cb.free 6
          have ST7 := Lib.hid (((st6.pe pe).li li).ac ac)
          clear hs hg ST5 st6
          go_wp2_with fail
          go_meet
          exact ⟨_, ST7.out.more (by omega), HQ.out⟩
        · have t7 : (y == 23) = false := by simpa using h7
          clear h7
          go_wp2_with fail
          go_meet
          exact ⟨_, ST3.out.more (by omega), HQ.out⟩
      case rest =>
      obtain ⟨p, st, hp⟩ := hcut
      have ST4 := Lib.hid st
      have HP := Lib.hid hp
      clear st hp ST3 HQ
      go_wp2_with (first | ((with_reducible refine load_blk ?_ 26 (.tmp 3) ?_ ST4.out.cb ?_ _ Tryz.underlying26 ?_ ?_ ?_); (iterate 4 rfl); exact rul_sz _ _) | ((with_reducible refine store_blk ?_ 26 (.tmp 2) (.tmp 83) ?_ ST4.out.rb (rulC p (.slice T n c)) ?_ ?_ ?_ ?_ ?_ ?_); (iterate 4 rfl); (exact rul_sz _ _); rfl; (exact rul_one _ _ _ _)))
      refine bodyPost_ret (rul_ret1 (fn := Tryz.f14) rfl _ _ w.heap.size p (.slice T n c) rfl (Blk.row ST4.out.rb _)) rfl ?_
      have h2 := ST4.out.h2
      have h3 := ST4.out.h3
      have h4 := ST4.out.h4
      exact ⟨p, T, n, c, rfl, by rw [HP.out, HN.out], HL3.out, ST4.out.fit, (ST4.out.own.low (by omega)).row (by omega) _, ((ST4.out.src.keep (setRow_other _ _ _ _ (by omega)) (fun i hi => setRow_other _ _ _ _ (by omega))).more (by omega)), ⟨ST4.out.only.os, ST4.out.only.tape, ST4.out.only.output, by rw [setRow_size]; exact ST4.out.only.size, fun i hi hne => (setRow_other _ _ _ _ (by omega)).trans (ST4.out.only.block i hi hne)⟩⟩
end Go.Proofs.YtbbihfafkpniiaaGreatDoor
/- What a law keeps beside a rule that it made. -/
namespace Go.Proofs.YtbbihfafkpniiaaGreatDoor
open Go.RowKit
/-- The source, the rule's block, its tests. -/
structure LRSt (w wr : World) (gc : Nat) (b : Int) (r : Rul) (tv : Value) : Prop where
  low : Below w.heap.size w wr
  src : SrcOk wr w.heap.size w.heap.size b
  cb : RulB wr gc r tv
  own : OwnT wr (w.heap.size + 1) tv r.ts
  ne : tv.ownBlock ≠ some gc
  siz : SizR r
  num : ∀ t ∈ r.ts, I64 t.nu
  hg : w.heap.size < gc
section
variable {w wr w' : World} {gc : Nat} {b b' : Int} {r r' : Rul} {tv : Value}
theorem LRSt.step (h : LRSt w wr gc b r tv) (hs : SrcOk w' w.heap.size w.heap.size b') (hg : wr.grownBy w' (some w.heap.size)) : LRSt w w' gc b' r tv :=
  ⟨below_only h.low hg h.low.size (Nat.le_refl _), hs, Blk.grown h.cb hg (fun e => by injection e with e; have := h.hg; omega), h.own.only hg (by omega), h.ne, h.siz, h.num, h.hg⟩
theorem LRSt.below (h : LRSt w wr gc b r tv) (hb : Below wr.heap.size wr w') : LRSt w w' gc b r tv :=
  ⟨below_then h.low hb, h.src.below hb, Blk.below h.cb hb, h.own.below hb, h.ne, h.siz, h.num, h.hg⟩
theorem LRSt.drew (h : LRSt w wr gc b r tv) : LRSt w wr.drew gc b r tv := h.below (Below.refl _ _).drew
theorem LRSt.alloc (h : LRSt w wr gc b r tv) (o : Obj) : LRSt w (wr.alloc o) gc b r tv := h.below ((Below.refl _ _).alloc (Nat.le_refl _) o)
theorem LRSt.more (h : LRSt w wr gc b r tv) (hb : b ≤ b') : LRSt w wr gc b' r tv := ⟨h.low, h.src.more hb, h.cb, h.own, h.ne, h.siz, h.num, h.hg⟩
theorem LRSt.lt (h : LRSt w wr gc b r tv) : w.heap.size < wr.heap.size := src_lt h.src
theorem OwnT.far {w : World} {lo gc : Nat} {v : Value} {ts : List Tst} (h : OwnT w lo v ts) (hne : v.ownBlock ≠ some gc) (i : Nat) (u : Value) : OwnT (w.setCell ⟨gc, i, none⟩ u) lo v ts :=
  World.ownsRow.kept h (row := some gc) ⟨rfl, rfl, rfl, by simp [World.setCell], fun k _ hk => Below.heap_setCell _ _ _ _ (fun e => hk (by rw [e]))⟩ (.inr hne)
theorem LRSt.put (h : LRSt w wr gc b r tv) (i : Nat) (v : Value) (e : (rulC r tv).setIfInBounds i v = rulC r' tv) (ht : r'.ts = r.ts) (hz : SizR r') : LRSt w (wr.setCell ⟨gc, i, none⟩ v) gc b r' tv := by
  have hg := h.hg
  have hx := Blk.put h.cb i v
  rw [e] at hx
  exact ⟨h.low.setCell (by show w.heap.size ≤ gc; omega) _, h.src.setCell (by show w.heap.size ≤ gc; omega) (by show gc ≠ w.heap.size; omega) _, hx, by rw [ht]; exact h.own.far h.ne _ _, h.ne, hz, by rw [ht]; exact h.num, hg⟩
theorem LRSt.li (h : LRSt w wr gc b r tv) (v : Int) : LRSt w (wr.setCell ⟨gc, 0, none⟩ (.int .i64 v)) gc b { r with li := v } tv := h.put 0 _ rfl rfl ⟨h.siz.ca, h.siz.pa, h.siz.ke, h.siz.tx, h.siz.ln⟩
theorem LRSt.ac (h : LRSt w wr gc b r tv) (v : Int) : LRSt w (wr.setCell ⟨gc, 1, none⟩ (.int .i64 v)) gc b { r with ac := v } tv := h.put 1 _ rfl rfl ⟨h.siz.ca, h.siz.pa, h.siz.ke, h.siz.tx, h.siz.ln⟩
theorem LRSt.ca (h : LRSt w wr gc b r tv) (v : Nat) (hv : v < 18446744073709551616) : LRSt w (wr.setCell ⟨gc, 2, none⟩ (.int .u64 (v : Int))) gc b { r with ca := v } tv := h.put 2 _ rfl rfl ⟨hv, h.siz.pa, h.siz.ke, h.siz.tx, h.siz.ln⟩
theorem LRSt.wa (h : LRSt w wr gc b r tv) (v : Int) : LRSt w (wr.setCell ⟨gc, 4, none⟩ (.int .i64 v)) gc b { r with wa := v } tv := h.put 4 _ rfl rfl ⟨h.siz.ca, h.siz.pa, h.siz.ke, h.siz.tx, h.siz.ln⟩
theorem LRSt.pa (h : LRSt w wr gc b r tv) (v : ByteArray) (hv : v.size ≤ 100000) : LRSt w (wr.setCell ⟨gc, 5, none⟩ (.string v)) gc b { r with pa := v } tv := h.put 5 _ rfl rfl ⟨h.siz.ca, hv, h.siz.ke, h.siz.tx, h.siz.ln⟩
theorem LRSt.pe (h : LRSt w wr gc b r tv) (v : Int) : LRSt w (wr.setCell ⟨gc, 6, none⟩ (.int .i64 v)) gc b { r with pe := v } tv := h.put 6 _ rfl rfl ⟨h.siz.ca, h.siz.pa, h.siz.ke, h.siz.tx, h.siz.ln⟩
theorem LRSt.ke (h : LRSt w wr gc b r tv) (v : ByteArray) (hv : v.size ≤ 100000) : LRSt w (wr.setCell ⟨gc, 7, none⟩ (.string v)) gc b { r with ke := v } tv := h.put 7 _ rfl rfl ⟨h.siz.ca, h.siz.pa, hv, h.siz.tx, h.siz.ln⟩
theorem LRSt.app (h : LRSt w wr gc b r tv) (t : Tst) (ht : (-13 ≤ t.nu ∧ t.nu ≤ 4294967295) ∧ t.tx.size ≤ 5) (hl : r.ts.length ≤ 1000) {v' : Value} (hg : wr.grownBy w' tv.ownBlock) (ho : OwnT w' (w.heap.size + 1) v' (r.ts ++ [t])) (hat : v'.ownBlock = tv.ownBlock ∨ v'.ownBlock = some wr.heap.size) :
    RulB w' gc r tv ∧ LRSt w (w'.setCell ⟨gc, 3, none⟩ v') gc b { r with ts := r.ts ++ [t] } v' := by
  have h2 := h.hg
  have hge := h.own.ge
  have hne := h.ne
  have hlt : gc < wr.heap.size := h.cb.lt
  have hr : ∀ k, tv.ownBlock = some k → w.heap.size < k := fun k hk => by have := hge k hk; omega
  have cb : RulB w' gc r tv := Blk.grown h.cb hg hne
  have hne' : v'.ownBlock ≠ some gc := by
    rcases hat with e | e
    · rw [e]; exact hne
    · rw [e]; intro e2; injection e2 with e2; omega
  refine ⟨cb, (h.low.grown hg h.low.size (fun k e => by have := hr k e; omega)).setCell (by show w.heap.size ≤ gc; omega) _, (h.src.grown hg (fun k e => by have := hr k e; omega)).setCell (by show w.heap.size ≤ gc; omega) (by show gc ≠ w.heap.size; omega) _, Blk.put cb 3 v', ho.far hne' _ _, hne', ⟨h.siz.ca, h.siz.pa, h.siz.ke, fun u hu => ?_, by show (r.ts ++ [t]).length ≤ 1000000; rw [List.length_append, List.length_singleton]; omega⟩, fun u hu => ?_, h2⟩
  · rcases List.mem_append.1 hu with hu | hu
    · exact h.siz.tx u hu
    · rw [List.mem_singleton.1 hu]; have := ht.2; unfold maxLen; omega
  · rcases List.mem_append.1 hu with hu | hu
    · exact h.num u hu
    · rw [List.mem_singleton.1 hu]; have := ht.1; unfold I64; omega
theorem LRSt.form (h : LRSt w wr gc b r tv) : ∃ A c, tv = .slice A r.ts.length c ∧ TestsAt wr wr.heap.size A r.ts := by
  obtain ⟨A, c, e, ht⟩ := h.own.tests
  exact ⟨A, c, e, ht⟩
end
theorem mk_siz {r : Rul} (h : MkR r) (hl : r.ts.length ≤ 3) : SizR r ∧ ∀ t ∈ r.ts, I64 t.nu :=
  ⟨⟨h.ca, by have := h.pa; omega, by have := h.ke; omega, fun t ht => by have := (h.ts t ht).2; unfold maxLen; omega, by omega⟩, fun t ht => by have := (h.ts t ht).1; unfold I64; omega⟩
/-- A rule that Rule made, laid in a block of the law's own. -/
theorem lr_new {w w1 w2 : World} {b : Int} {r : Rul} {T : Option Addr} {n c : Nat} (hb1 : Below w.heap.size w w1) (h1 : w.heap.size < w1.heap.size) (hs : SrcOk w2 w.heap.size w.heap.size b) (hg : w1.grownBy w2 (some w.heap.size)) (hown : OwnT w2 (w1.heap.size + 1) (.slice T n c) r.ts) (hm : MkR r) (hn : n = r.ts.length) (hl : n ≤ 3) :
    LRSt w (w2.alloc (.cells (rulC r (.slice T n c)) 26)) w2.heap.size b r (.slice T n c) := by
  have hsz := hg.size
  obtain ⟨z1, z2⟩ := mk_siz hm (by omega)
  have hb2 := below_only hb1 hg hb1.size (Nat.le_refl _)
  refine ⟨hb2.alloc hb2.size _, hs.alloc _, Blk.new w2 _ _, (hown.alloc _).low (by omega), fun e => ?_, z1, z2, by omega⟩
  have := (World.ownsRow.lt hown _ e).2
  omega
/-- agrees is true of it. -/
theorem lr_agrees {w wr : World} {gc : Nat} {b : Int} {r : Rul} {T : Option Addr} {n c : Nat} (h : LRSt w wr gc b r (.slice T n c)) (hG : RGlob wr) :
    Calls Tryz.prog 12 #[rulV r (.slice T n c)] wr fun e w' => e = .returned (.bool true) ∧ LRSt w w' gc b r (.slice T n c) := by
  obtain ⟨A, c', e, ht⟩ := h.form
  injection e with e1 e2 e3
  subst e1 e3
  refine (agreesR r T n c e2 h.siz h.num wr ht hG).mono ?_
  rintro e w' ⟨rfl, hb⟩
  exact ⟨rfl, h.below hb⟩
end Go.Proofs.YtbbihfafkpniiaaGreatDoor
