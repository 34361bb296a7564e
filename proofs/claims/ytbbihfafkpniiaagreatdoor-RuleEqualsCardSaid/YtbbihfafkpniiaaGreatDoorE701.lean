/- Texts of one proof, laid together. -/
import Derived.Test.YtbbihfafkpniiaaGreatDoorD03
import Derived.DataElems
import Derived.Test.YtbbihfafkpniiaaGreatDoorE301
import Derived.Test.YtbbihfafkpniiaaGreatDoorE504
/- append of a slice of tests, nil or not, to tests of the call's own. -/
namespace Go.Proofs.YtbbihfafkpniiaaGreatDoor
open Go.RowKit
theorem flatT_len (ts : List Tst) : (ts.flatMap fun t => (tstC t).toList).length = ts.length * 5 := by
  induction ts with
  | nil => rfl
  | cons t ts ih => rw [List.flatMap_cons, List.length_append, ih, tst_len]; simp; omega
theorem run_append_tsts (w : World) (base : Nat) (ty : TypeId) (v : Value) (L : List Tst) (B : Nat) (A : Option Addr) (n c : Nat) (ss : List Tst) (hn : n = ss.length) (hown : OwnT w base v L) (hr : TestsAt w B A ss) (hlen : L.length + ss.length ≤ 1000000) (hbase : base ≤ w.heap.size) :
    ∃ v' w', (Builtin.append_ #[24, 24] ty #[v, .slice A n c]).run Tryz.prog w = .ok v' w' ∧ OwnT w' base v' (L ++ ss) ∧ w.grownBy w' v.ownBlock ∧ (v'.ownBlock = v.ownBlock ∨ v'.ownBlock = some w.heap.size) := by
  subst hn
  obtain ⟨i0, hi, hz0, hz1, hz2⟩ := info_parts Tryz.infoT
  have h := hown
  rcases A with _ | ad
  · have hss : ss = [] := by
      cases ss with
      | nil => rfl
      | cons s r => obtain ⟨ad, e, _⟩ := hr 0 (by simp); cases e
    subst hss
    refine ⟨v, w, ?_, by simpa using hown, World.grownBy.refl w _, .inl rfl⟩
    rcases h.2 with ⟨rfl, _⟩ | ⟨g, cap, cur, rfl, _, _, hnc, _⟩
    · simp [Builtin.append_, run_underlying Tryz.underlying24, sizeOf, typeInfo, hi, Builtin.lenOf, Builtin.firstCells]
    · simp [Builtin.append_, run_underlying Tryz.underlying24, sizeOf, typeInfo, hi, Builtin.lenOf, Builtin.firstCells, hnc, storeCells]
  · obtain ⟨v', w', hrun, h2, h3, _, h5⟩ := run_append_own_at (P := Tryz.prog) w base 24 ty 40 i0 _ 5 48 Tryz.underlying24 hi hz0 hz1 hz2 rfl (by omega) v L.length _ h ad ss.length c (ss.flatMap fun t => (tstC t).toList) (flatT_len ss) (fun j u hu => by
      have hj : j < ss.length * 5 := by have := (List.getElem?_eq_some_iff.1 hu).1; rwa [flatT_len] at this
      have hk : j / 5 < ss.length := by omega
      have e : j = j / 5 * 5 + j % 5 := by omega
      obtain ⟨ad', e', _, hc⟩ := hr (j / 5) hk
      cases e'
      have h2 := hc (j % 5) (by omega)
      rw [Addr.add_add, ← e] at h2
      rw [h2]
      have h3 := flatT_at ss (j / 5) hk (j % 5) (by omega)
      rw [← e] at h3
      rw [← h3]; exact hu) (by
      intro u hu
      obtain ⟨t, _, ht⟩ := List.mem_flatMap.1 hu
      have := tst_one t
      rw [← Array.all_toList, List.all_eq_true] at this
      exact this u ht) (by unfold maxLen; omega) (by omega) hbase
    refine ⟨v', w', hrun, ?_, h3, h5⟩
    show w'.ownsRow base 40 5 v' (L ++ ss).length ((L ++ ss).flatMap fun t => (tstC t).toList)
    rw [List.length_append, List.flatMap_append]
    exact h2
theorem wpList_append_tsts {ops : Array Oper} {rest : List Oper} {o : Oper} {a : Act} {w : World} {Q : Exit → Act → World → Prop} (hgd : o.guard = none) (s x : Operand) (ho : o.op = .call { callee := .builtin .append, args := #[s, x], argTypes := #[24, 24] })
    (base : Nat) (v : Value) (L : List Tst) (hs : a.eval s = v) (hown : OwnT w base v L) (B : Nat) (A : Option Addr) (n c : Nat) (ss : List Tst) (hx : a.eval x = .slice A n c) (hn : n = ss.length) (hr : TestsAt w B A ss) (hlen : L.length + ss.length ≤ 1000000) (hbase : base ≤ w.heap.size)
    (h : ∀ v' w', OwnT w' base v' (L ++ ss) → w.grownBy w' v.ownBlock → (v'.ownBlock = v.ownBlock ∨ v'.ownBlock = some w.heap.size) → wpList Tryz.prog ops Q rest (a.put o.dst v') w') : wpList Tryz.prog ops Q (o :: rest) a w :=
  wpList_plain hgd fun K hK => by
    obtain ⟨v', w', hrun, h2, h3, h4⟩ := run_append_tsts w base o.type v L B A n c ss hn hown hr hlen hbase
    unfold Oper.wp execOp
    simp only [ho, resolve, invoke, builtin, Sem.run_bind, Sem.run_pure, Result.andThen_ok, List.map_toArray, List.map_cons, List.map_nil, hs, hx, hrun]
    exact hK _ _ (h v' w' h2 h3 h4)
end Go.Proofs.YtbbihfafkpniiaaGreatDoor
/- What the law RuleEquals keeps: three rules of its own. -/
namespace Go.Proofs.YtbbihfafkpniiaaGreatDoor
open Go.RowKit
theorem xor_any {m : Nat} (hm : m < 18446744073709551616) : ∃ k : Nat, k < 18446744073709551616 ∧ bits .xor .u64 (m : Int) 2 = (k : Int) := by
  have := u64_xor_nat m 2 (by omega) (by omega)
  exact ⟨m ^^^ 2, Nat.xor_lt_two_pow (n := 64) hm (by decide), this⟩
section
variable {w wr w' : World} {gc k : Nat} {b b' : Int} {r r' : Rul} {tv tv' : Value}
theorem LRSt.farGrown (h : LRSt w wr gc b r tv) (hg : wr.grownBy w' (some k)) (hk : w.heap.size < k) (hne : k ≠ gc) (ht : tv.ownBlock ≠ some k) : LRSt w w' gc b r tv := by
  refine ⟨?_, h.src.grown hg (fun i e => by injection e with e; omega), Blk.grown h.cb hg (fun e => by injection e with e; exact hne e), World.ownsRow.kept h.own hg (by
    cases hv : tv.ownBlock with
    | none => exact .inl rfl
    | some i => right; intro e; rw [hv] at ht; exact ht e), h.ne, h.siz, h.num, h.hg⟩
  exact h.low.grown hg h.low.size (fun i e => by injection e with e; omega)
/-- Three rules in blocks of the law's own; the third's tests are no other's. -/
structure LE (w wr : World) (gr gq gu : Nat) (b : Int) (r q u : Rul) (tr tq tu : Value) : Prop where
  r : LRSt w wr gr b r tr
  q : LRSt w wr gq b q tq
  u : LRSt w wr gu b u tu
  n1 : gu ≠ gr
  n2 : gu ≠ gq
  a1 : tr.ownBlock ≠ some gu
  a2 : tq.ownBlock ≠ some gu
  sep : ∀ k, tu.ownBlock = some k → k ≠ gr ∧ k ≠ gq ∧ tr.ownBlock ≠ some k ∧ tq.ownBlock ≠ some k
variable {gr gq gu : Nat} {q u u' : Rul} {tr tq tu : Value}
theorem LE.step (h : LE w wr gr gq gu b r q u tr tq tu) (hs : SrcOk w' w.heap.size w.heap.size b') (hg : wr.grownBy w' (some w.heap.size)) : LE w w' gr gq gu b' r q u tr tq tu := ⟨h.r.step hs hg, h.q.step hs hg, h.u.step hs hg, h.n1, h.n2, h.a1, h.a2, h.sep⟩
theorem LE.below (h : LE w wr gr gq gu b r q u tr tq tu) (hb : Below wr.heap.size wr w') : LE w w' gr gq gu b r q u tr tq tu := ⟨h.r.below hb, h.q.below hb, h.u.below hb, h.n1, h.n2, h.a1, h.a2, h.sep⟩
theorem LE.alloc (h : LE w wr gr gq gu b r q u tr tq tu) (o : Obj) : LE w (wr.alloc o) gr gq gu b r q u tr tq tu := ⟨h.r.alloc o, h.q.alloc o, h.u.alloc o, h.n1, h.n2, h.a1, h.a2, h.sep⟩
theorem LE.drew (h : LE w wr gr gq gu b r q u tr tq tu) : LE w wr.drew gr gq gu b r q u tr tq tu := h.below (Below.refl _ _).drew
theorem LE.more (h : LE w wr gr gq gu b r q u tr tq tu) (hb : b ≤ b') : LE w wr gr gq gu b' r q u tr tq tu := ⟨h.r.more hb, h.q.more hb, h.u.more hb, h.n1, h.n2, h.a1, h.a2, h.sep⟩
theorem LE.put (h : LE w wr gr gq gu b r q u tr tq tu) {i : Nat} {v : Value} (hu : LRSt w (wr.setCell ⟨gu, i, none⟩ v) gu b u' tu) : LE w (wr.setCell ⟨gu, i, none⟩ v) gr gq gu b r q u' tr tq tu :=
  ⟨h.r.farPut i v h.u.hg h.n1 h.a1, h.q.farPut i v h.u.hg h.n2 h.a2, hu, h.n1, h.n2, h.a1, h.a2, h.sep⟩
/-- The third is made: a copy of the first, whose tests are appended to none. -/
theorem LE.start {v' : Value} {w1 : World} (h : LD w wr gr gq b r q tr tq) (hg : (wr.alloc (.cells (rulC r tr) 26)).grownBy w1 none) (ho : OwnT w1 (w.heap.size + 1) v' r.ts) (hat : v'.ownBlock = none ∨ v'.ownBlock = some (wr.alloc (.cells (rulC r tr) 26)).heap.size) :
    RulB w1 wr.heap.size r tr ∧ LE w (w1.setCell ⟨wr.heap.size, 3, none⟩ v') gr gq wr.heap.size b r q r tr tq v' := by
  have hlt : w.heap.size < wr.heap.size := h.p.lt
  have hb : Below (wr.alloc (.cells (rulC r tr) 26)).heap.size (wr.alloc (.cells (rulC r tr) 26)) w1 := ⟨hg.os, hg.tape, hg.output, hg.size, fun i hi => hg.block i hi (fun e => by cases e)⟩
  have p1 := (h.p.alloc (.cells (rulC r tr) 26)).below hb
  have q1 := (h.q.alloc (.cells (rulC r tr) 26)).below hb
  have x1 : RulB w1 wr.heap.size r tr := Blk.below (Blk.new wr _ _) hb
  have hgr := h.p.cb.lt
  have hgq := h.q.cb.lt
  have e1 : (wr.alloc (.cells (rulC r tr) 26)).heap.size = wr.heap.size + 1 := by simp
  have hr0 : tr.ownBlock ≠ some wr.heap.size := fun e => by have := (World.ownsRow.lt h.p.own _ e).2; omega
  have hq0 : tq.ownBlock ≠ some wr.heap.size := fun e => by have := (World.ownsRow.lt h.q.own _ e).2; omega
  have hne : v'.ownBlock ≠ some wr.heap.size := by
    rcases hat with e | e
    · rw [e]; intro e2; cases e2
    · rw [e, e1]; intro e2; injection e2 with e2; omega
  refine ⟨x1, p1.farPut 3 v' hlt (by omega) hr0, q1.farPut 3 v' hlt (by omega) hq0, ?_, by omega, by omega, hr0, hq0, fun k hk => ?_⟩
  · exact ⟨p1.low.setCell (by show w.heap.size ≤ wr.heap.size; omega) _, p1.src.setCell (by show w.heap.size ≤ wr.heap.size; omega) (by show wr.heap.size ≠ w.heap.size; omega) _, Blk.put x1 3 v', ho.far hne _ _, hne, h.p.siz, h.p.num, hlt⟩
  · rcases hat with e | e
    · rw [e] at hk; cases hk
    · rw [e, e1] at hk
      injection hk with hk
      subst hk
      exact ⟨by omega, by omega, fun e => by have := (World.ownsRow.lt h.p.own _ e).2; omega, fun e => by have := (World.ownsRow.lt h.q.own _ e).2; omega⟩
/-- A test is appended to the third. -/
theorem LE.app (h : LE w wr gr gq gu b r q u tr tq tu) (t : Tst) (ht : (-13 ≤ t.nu ∧ t.nu ≤ 4294967295) ∧ t.tx.size ≤ 5) (hl : u.ts.length ≤ 1000) {v' : Value} (hg : wr.grownBy w' tu.ownBlock) (ho : OwnT w' (w.heap.size + 1) v' (u.ts ++ [t])) (hat : v'.ownBlock = tu.ownBlock ∨ v'.ownBlock = some wr.heap.size) :
    RulB w' gu u tu ∧ LE w (w'.setCell ⟨gu, 3, none⟩ v') gr gq gu b r q { u with ts := u.ts ++ [t] } tr tq v' := by
  obtain ⟨x1, u1⟩ := h.u.app t ht hl hg ho hat
  have hgr := h.r.cb.lt
  have hgq := h.q.cb.lt
  have r1 : LRSt w w' gr b r tr := by
    cases hv : tu.ownBlock with
    | none => rw [hv] at hg; exact h.r.below ⟨hg.os, hg.tape, hg.output, hg.size, fun i hi => hg.block i hi (fun e => by cases e)⟩
    | some k => rw [hv] at hg; exact h.r.farGrown hg (by have := h.u.own.ge k hv; omega) (h.sep k hv).1 (h.sep k hv).2.2.1
  have q1 : LRSt w w' gq b q tq := by
    cases hv : tu.ownBlock with
    | none => rw [hv] at hg; exact h.q.below ⟨hg.os, hg.tape, hg.output, hg.size, fun i hi => hg.block i hi (fun e => by cases e)⟩
    | some k => rw [hv] at hg; exact h.q.farGrown hg (by have := h.u.own.ge k hv; omega) (h.sep k hv).2.1 (h.sep k hv).2.2.2
  refine ⟨x1, r1.farPut 3 v' h.u.hg h.n1 h.a1, q1.farPut 3 v' h.u.hg h.n2 h.a2, u1, h.n1, h.n2, h.a1, h.a2, fun k hk => ?_⟩
  rcases hat with e | e
  · rw [e] at hk; exact h.sep k hk
  · rw [e] at hk
    injection hk with hk
    subst hk
    exact ⟨by omega, by omega, fun e => by have := (World.ownsRow.lt h.r.own _ e).2; omega, fun e => by have := (World.ownsRow.lt h.q.own _ e).2; omega⟩
/-- A cell of the third's tests is written. -/
structure LS (w wr : World) (gr gq gu g n c : Nat) (b : Int) (r q u : Rul) (tr tq : Value) (xs : List Value) : Prop where
  r : LRSt w wr gr b r tr
  q : LRSt w wr gq b q tq
  low : Below w.heap.size w wr
  src : SrcOk wr w.heap.size w.heap.size b
  cb : RulB wr gu u (.slice (some ⟨g, 0, none⟩) n c)
  own : wr.ownsRow (w.heap.size + 1) 40 5 (.slice (some ⟨g, 0, none⟩) n c) n xs
  g1 : g ≠ gr
  g2 : g ≠ gq
  g3 : g ≠ gu
  a1 : tr.ownBlock ≠ some g
  a2 : tq.ownBlock ≠ some g
  hg : w.heap.size < g
theorem LS.put {g n c : Nat} {xs : List Value} (h : LS w wr gr gq gu g n c b r q u tr tq xs) (j : Nat) (v : Value) : LS w (wr.setCell ⟨g, j, none⟩ v) gr gq gu g n c b r q u tr tq (xs.set j v) :=
  ⟨h.r.farPut j v h.hg h.g1 h.a1, h.q.farPut j v h.hg h.g2 h.a2, h.low.setCell (by show w.heap.size ≤ g; have := h.hg; omega) _, h.src.setCell (by show w.heap.size ≤ g; have := h.hg; omega) (by show g ≠ w.heap.size; have := h.hg; omega) _, Blk.put_other h.cb v (fun e => h.g3 e.symm), (h.own.stored j v).1, h.g1, h.g2, h.g3, h.a1, h.a2, h.hg⟩
theorem LS.drew {g n c : Nat} {xs : List Value} (h : LS w wr gr gq gu g n c b r q u tr tq xs) : LS w wr.drew gr gq gu g n c b r q u tr tq xs :=
  ⟨h.r.drew, h.q.drew, h.low.drew, h.src.drew, Blk.below h.cb (Below.refl _ _).drew, World.ownsRow.kept (row := none) h.own ⟨rfl, rfl, rfl, Nat.le_refl _, fun _ _ _ => rfl⟩ (.inr (by simp [Value.ownBlock])), h.g1, h.g2, h.g3, h.a1, h.a2, h.hg⟩
theorem LE.ls {g n c : Nat} (h : LE w wr gr gq gu b r q u tr tq (.slice (some ⟨g, 0, none⟩) n c)) : n = u.ts.length ∧ LS w wr gr gq gu g n c b r q u tr tq (u.ts.flatMap fun t => (tstC t).toList) := by
  have hn : n = u.ts.length := by
    obtain ⟨A, c', e, _⟩ := h.u.form
    injection e
  have hs := h.sep g rfl
  refine ⟨hn, ?_⟩
  subst hn
  exact ⟨h.r, h.q, h.u.low, h.u.src, h.u.cb, h.u.own, hs.1, hs.2.1, fun e => h.u.ne (by rw [← e]; rfl), hs.2.2.1, hs.2.2.2, by have := h.u.own.ge g rfl; omega⟩
theorem LS.le {g n c : Nat} {xs : List Value} (h : LS w wr gr gq gu g n c b r q u tr tq xs) (he : LE w w' gr gq gu b r q u tr tq (.slice (some ⟨g, 0, none⟩) n c)) (ts : List Tst) (hn : n = ts.length) (e : xs = ts.flatMap fun t => (tstC t).toList) (hx : RulB wr gu { u with ts := ts } (.slice (some ⟨g, 0, none⟩) n c)) (hz : SizR { u with ts := ts }) (hi : ∀ t ∈ ts, I64 t.nu) :
    LE w wr gr gq gu b r q { u with ts := ts } tr tq (.slice (some ⟨g, 0, none⟩) n c) := by
  refine ⟨h.r, h.q, ⟨h.low, h.src, hx, ?_, he.u.ne, hz, hi, he.u.hg⟩, he.n1, he.n2, he.a1, he.a2, he.sep⟩
  show wr.ownsRow _ _ _ _ ts.length (ts.flatMap fun t => (tstC t).toList)
  rw [← hn, ← e]; exact h.own
end
end Go.Proofs.YtbbihfafkpniiaaGreatDoor
