/- Texts of one proof, laid together. -/
import Derived.Test.YtbbihfafkpniiaaGreatDoorC25
import Derived.Test.YtbbihfafkpniiaaGreatDoorD03
import Derived.Test.YtbbihfafkpniiaaGreatDoorC16
import Derived.Test.YtbbihfafkpniiaaGreatDoorC23
/- A part of a rule's text, as Parse reads it: plain facts, and what is kept. -/
namespace Go.Proofs.YtbbihfafkpniiaaGreatDoor
open Go.RowKit
theorem trim_app (a b : ByteArray) : (⟨(Lib.trimPrefix (a ++ b).data.toList a.data.toList).toArray⟩ : ByteArray) = b := by
  unfold Lib.trimPrefix
  rw [if_pos (pre_app a b)]
  exact bytes_ext (by rw [ByteArray.data_append, Array.toList_append]; simp)
theorem pre_no {l : List UInt8} (b x : ByteArray) (h : ∀ m, l.isPrefixOf (b.data.toList ++ m) = false) : Lib.hasPrefix (b ++ x).data.toList l = false := by
  rw [ByteArray.data_append, Array.toList_append]; exact h _
theorem pre_dp (x : ByteArray) : Lib.hasPrefix (dirW ++ x).data.toList pathW.data.toList = false := pre_no dirW x fun _ => rfl
theorem pre_pp (x : ByteArray) : Lib.hasPrefix (permW ++ x).data.toList pathW.data.toList = false := pre_no permW x fun _ => rfl
theorem pre_pd (x : ByteArray) : Lib.hasPrefix (permW ++ x).data.toList dirW.data.toList = false := pre_no permW x fun _ => rfl
theorem pre_fd (x : ByteArray) : Lib.hasPrefix (pathW ++ x).data.toList dirW.data.toList = false := pre_no pathW x fun _ => rfl
theorem pre_fp (x : ByteArray) : Lib.hasPrefix (pathW ++ x).data.toList permW.data.toList = false := pre_no pathW x fun _ => rfl
theorem pre_dm (x : ByteArray) : Lib.hasPrefix (dirW ++ x).data.toList permW.data.toList = false := pre_no dirW x fun _ => rfl
/-- What a part is, by its first bytes. -/
theorem pt_path {p : Part} {w : ByteArray} (hp : p.ok) (e : p.txt = w) (h : Lib.hasPrefix w.data.toList pathW.data.toList = true) : ∃ q, p = .fil q ∧ q.size ≤ 128 ∧ (⟨(Lib.trimPrefix w.data.toList pathW.data.toList).toArray⟩ : ByteArray) = quoteS q := by
  subst e
  cases p with
  | tst t => rw [show Part.txt (.tst t) = t.txt from rfl, tst_path hp.1] at h; cases h
  | fil q => exact ⟨q, rfl, hp, trim_app pathW (quoteS q)⟩
  | dir q => rw [show Part.txt (.dir q) = dirW ++ quoteS q from rfl, pre_dp] at h; cases h
  | prm n => rw [show Part.txt (.prm n) = permW ++ permS n from rfl, pre_pp] at h; cases h
theorem pt_dir {p : Part} {w : ByteArray} (hp : p.ok) (e : p.txt = w) (h : Lib.hasPrefix w.data.toList dirW.data.toList = true) : ∃ q, p = .dir q ∧ q.size ≤ 128 ∧ (⟨(Lib.trimPrefix w.data.toList dirW.data.toList).toArray⟩ : ByteArray) = quoteS q := by
  subst e
  cases p with
  | tst t => rw [show Part.txt (.tst t) = t.txt from rfl, tst_dir hp.1] at h; cases h
  | fil q => rw [show Part.txt (.fil q) = pathW ++ quoteS q from rfl, pre_fd] at h; cases h
  | dir q => exact ⟨q, rfl, hp, trim_app dirW (quoteS q)⟩
  | prm n => rw [show Part.txt (.prm n) = permW ++ permS n from rfl, pre_pd] at h; cases h
theorem pt_perm {p : Part} {w : ByteArray} (hp : p.ok) (e : p.txt = w) (h : Lib.hasPrefix w.data.toList permW.data.toList = true) : ∃ n, p = .prm n ∧ 1 ≤ n ∧ n ≤ 15 ∧ (⟨(Lib.trimPrefix w.data.toList permW.data.toList).toArray⟩ : ByteArray) = permS n := by
  subst e
  cases p with
  | tst t => rw [show Part.txt (.tst t) = t.txt from rfl, tst_perm hp.1] at h; cases h
  | fil q => rw [show Part.txt (.fil q) = pathW ++ quoteS q from rfl, pre_fp] at h; cases h
  | dir q => rw [show Part.txt (.dir q) = dirW ++ quoteS q from rfl, pre_dm] at h; cases h
  | prm n => exact ⟨n, rfl, hp.1, hp.2, trim_app permW (permS n)⟩
theorem pt_tst {p : Part} {w : ByteArray} (hp : p.ok) (e : p.txt = w) (h1 : Lib.hasPrefix w.data.toList pathW.data.toList = false) (h2 : Lib.hasPrefix w.data.toList dirW.data.toList = false) (h3 : Lib.hasPrefix w.data.toList permW.data.toList = false) : ∃ t, p = .tst t ∧ t.any = 0 ∧ I64 t.nu ∧ t.txt = w := by
  subst e
  cases p with
  | tst t => exact ⟨t, rfl, hp.1, hp.2, rfl⟩
  | fil q => rw [show Part.txt (.fil q) = pathW ++ quoteS q from rfl, pre_app] at h1; cases h1
  | dir q => rw [show Part.txt (.dir q) = dirW ++ quoteS q from rfl, pre_app] at h2; cases h2
  | prm n => rw [show Part.txt (.prm n) = permW ++ permS n from rfl, pre_app] at h3; cases h3
theorem trim_sz (s : ByteArray) (p : List UInt8) : (⟨(Lib.trimPrefix s.data.toList p).toArray⟩ : ByteArray).size ≤ s.size := by
  show (Lib.trimPrefix s.data.toList p).toArray.size ≤ s.size
  rw [List.size_toArray]
  unfold Lib.trimPrefix
  split
  · rw [List.length_drop, bsz']; omega
  · rw [bsz']; exact Nat.le_refl _
/-- A part that is read makes the rule that it says. -/
theorem put_path {w : ByteArray} {r : Rul} (h : Lib.hasPrefix w.data.toList pathW.data.toList = true) {b b' : Bool} (hb : unqE (⟨(Lib.trimPrefix w.data.toList pathW.data.toList).toArray⟩ : ByteArray) = 0 → b' = b) :
    ∀ p : Part, p.ok → p.txt = w → ({ r with wa := 1, pa := unqS (⟨(Lib.trimPrefix w.data.toList pathW.data.toList).toArray⟩ : ByteArray) } : Rul) = r.put p ∧ b' = b := fun p hp e => by
  obtain ⟨q, rfl, hq, ht⟩ := pt_path hp e h
  obtain ⟨u1, u2⟩ := unq_quoteF (t := q) (by omega)
  rw [ht] at hb ⊢
  exact ⟨by rw [u1]; rfl, hb u2⟩
theorem put_dir {w : ByteArray} {r : Rul} (h : Lib.hasPrefix w.data.toList dirW.data.toList = true) {b b' : Bool} (hb : unqE (⟨(Lib.trimPrefix w.data.toList dirW.data.toList).toArray⟩ : ByteArray) = 0 → b' = b) :
    ∀ p : Part, p.ok → p.txt = w → ({ r with wa := 2, pa := unqS (⟨(Lib.trimPrefix w.data.toList dirW.data.toList).toArray⟩ : ByteArray) } : Rul) = r.put p ∧ b' = b := fun p hp e => by
  obtain ⟨q, rfl, hq, ht⟩ := pt_dir hp e h
  obtain ⟨u1, u2⟩ := unq_quoteF (t := q) (by omega)
  rw [ht] at hb ⊢
  exact ⟨by rw [u1]; rfl, hb u2⟩
theorem put_perm {w : ByteArray} {r : Rul} (h : Lib.hasPrefix w.data.toList permW.data.toList = true) {m : Int} {b b' : Bool} (hb : ∀ q : Int, 1 ≤ q → q ≤ 15 → (⟨(Lib.trimPrefix w.data.toList permW.data.toList).toArray⟩ : ByteArray) = permS q → m = q ∧ b' = b) :
    ∀ p : Part, p.ok → p.txt = w → ({ r with pe := m } : Rul) = r.put p ∧ b' = b := fun p hp e => by
  obtain ⟨q, rfl, h1, h2, ht⟩ := pt_perm hp e h
  obtain ⟨e1, e2⟩ := hb q h1 h2 ht
  exact ⟨by rw [e1]; rfl, e2⟩
theorem put_tst {w : ByteArray} {r : Rul} (h1 : Lib.hasPrefix w.data.toList pathW.data.toList = false) (h2 : Lib.hasPrefix w.data.toList dirW.data.toList = false) (h3 : Lib.hasPrefix w.data.toList permW.data.toList = false)
    {fd op nu : Int} {tx : ByteArray} {ot : Int} (ht : TIs w fd op nu tx ot 0) : ∀ p : Part, p.ok → p.txt = w → ({ r with ts := r.ts ++ [⟨fd, op, nu, tx, ot⟩] } : Rul) = r.put p := fun p hp e => by
  obtain ⟨t, rfl, k1, k2, k3⟩ := pt_tst hp e h1 h2 h3
  have hT : TIs w t.fd t.op t.nu t.tx t.ot 0 := .inl ⟨rfl, k1, k3, k2⟩
  obtain ⟨_, e1, e2, e3, e4, e5⟩ := ht.unique hT
  subst e1 e2 e3 e4 e5
  rfl
theorem put_none {w : ByteArray} (h1 : Lib.hasPrefix w.data.toList pathW.data.toList = false) (h2 : Lib.hasPrefix w.data.toList dirW.data.toList = false) (h3 : Lib.hasPrefix w.data.toList permW.data.toList = false)
    {fd op nu : Int} {tx : ByteArray} {ot er : Int} (ht : TIs w fd op nu tx ot er) (he : er ≠ 0) : ∀ p : Part, p.ok → p.txt = w → False := fun p hp e => by
  obtain ⟨t, rfl, k1, k2, k3⟩ := pt_tst hp e h1 h2 h3
  have hT : TIs w t.fd t.op t.nu t.tx t.ot 0 := .inl ⟨rfl, k1, k3, k2⟩
  exact he (ht.unique hT).1
/-- Bounds of a rule that is read. -/
structure RdR (r : Rul) (m : Nat) : Prop where
  ca : r.ca < 18446744073709551616
  pa : r.pa.size ≤ 640
  ke : r.ke.size ≤ 640
  ts : ∀ t ∈ r.ts, I64 t.nu ∧ t.tx.size ≤ 640
  ln : r.ts.length ≤ m
theorem RdR.more {r : Rul} {m m' : Nat} (h : RdR r m) (hm : m ≤ m') : RdR r m' := ⟨h.ca, h.pa, h.ke, h.ts, Nat.le_trans h.ln hm⟩
theorem RdR.siz {r : Rul} {m : Nat} (h : RdR r m) (hm : m ≤ 200000) : SizR r := ⟨h.ca, by have := h.pa; omega, by have := h.ke; omega, fun t ht => by have := (h.ts t ht).2; unfold maxLen; omega, by have := h.ln; omega⟩
theorem RdR.num {r : Rul} {m : Nat} (h : RdR r m) : ∀ t ∈ r.ts, I64 t.nu := fun t ht => (h.ts t ht).1
theorem RdR.zero (m : Nat) : RdR zeroR m := ⟨by show 0 < _; omega, by show 0 ≤ 640; omega, by show 0 ≤ 640; omega, fun t ht => (by cases ht), Nat.zero_le _⟩
theorem RdR.app {r : Rul} {m : Nat} (h : RdR r m) {t : Tst} (ht : I64 t.nu ∧ t.tx.size ≤ 640) : RdR { r with ts := r.ts ++ [t] } (m + 1) := ⟨h.ca, h.pa, h.ke, fun u hu => by
  rcases List.mem_append.1 hu with hu | hu
  · exact h.ts u hu
  · rw [List.mem_singleton.1 hu]; exact ht, by show (r.ts ++ [t]).length ≤ m + 1; have := h.ln; simp; omega⟩
/-- Below M nothing has turned but block g. -/
structure OnlyG (g M : Nat) (w w' : World) : Prop where
  os : w'.os = w.os
  tape : w'.tape = w.tape
  output : w'.output = w.output
  size : w.heap.size ≤ w'.heap.size
  block : ∀ i, i < M → i ≠ g → w'.heap[i]? = w.heap[i]?
theorem OnlyG.refl (g M : Nat) (w : World) : OnlyG g M w w := ⟨rfl, rfl, rfl, Nat.le_refl _, fun _ _ _ => rfl⟩
theorem OnlyG.trans {g M : Nat} {a b c : World} (h : OnlyG g M a b) (k : OnlyG g M b c) : OnlyG g M a c := ⟨k.os.trans h.os, k.tape.trans h.tape, k.output.trans h.output, Nat.le_trans h.size k.size, fun i hi hne => (k.block i hi hne).trans (h.block i hi hne)⟩
theorem OnlyG.mono {g M M' : Nat} {a b : World} (h : OnlyG g M a b) (hm : M' ≤ M) : OnlyG g M' a b := ⟨h.os, h.tape, h.output, h.size, fun i hi => h.block i (by omega)⟩
theorem OnlyG.of {g M : Nat} {w w' : World} (h : OnlyR g w w') (hM : M ≤ w.heap.size) : OnlyG g M w w' := ⟨h.os, h.tape, h.output, h.size, fun i hi hne => h.block i (by omega) (fun e => hne (by injection e))⟩
theorem OnlyG.ofB {g M : Nat} {w w' : World} (h : Below M w w') : OnlyG g M w w' := ⟨h.os, h.tape, h.output, h.size, fun i hi _ => h.block i hi⟩
theorem OnlyG.below {g M B : Nat} {w w' : World} (h : OnlyG g M w w') (hg : B ≤ g) (hM : B ≤ M) : Below B w w' := ⟨h.os, h.tape, h.output, h.size, fun i hi => h.block i (by omega) (by omega)⟩
theorem OnlyG.only {g : Nat} {w w' : World} (h : OnlyG g w.heap.size w w') : OnlyR g w w' := ⟨h.os, h.tape, h.output, h.size, fun i hi hne => h.block i hi (fun e => hne (by rw [e]))⟩
theorem Gl.onlyG {w0 w w' : World} {g M : Nat} (h : Gl w0 g w) (ho : OnlyG g M w w') (hM : w0.heap.size ≤ M) : Gl w0 g w' := ⟨h.glob, h.env, h.low.trans (ho.below h.le hM), h.le⟩
/-- What part keeps: the reader, the rule's block, its tests. -/
structure PaT (w wr : World) (M g gr : Nat) (A : Option Addr) (n c : Nat) (ws : List ByteArray) (k : Nat) (b : Bool) (r : Rul) (tv : Value) : Prop where
  rd : RdS wr g A n c ws k b
  x : RulB wr gr r tv
  own : OwnT wr (gr + 1) tv r.ts
  lt : g < gr
  hM : M ≤ gr
  hW : M ≤ wr.heap.size
  only : OnlyG g M w wr
section
variable {w wr w' : World} {M g gr n c k k' : Nat} {A : Option Addr} {ws : List ByteArray} {b b' : Bool} {r r' : Rul} {tv : Value}
theorem PaT.step (h : PaT w wr M g gr A n c ws k b r tv) (hr : RdS w' g A n c ws k' b') (ho : OnlyR g wr w') : PaT w w' M g gr A n c ws k' b' r tv :=
  ⟨hr, Blk.onlyR h.x ho (by have := h.lt; omega), h.own.only ho (by have := h.lt; omega), h.lt, h.hM, Nat.le_trans h.hW ho.size, h.only.trans (OnlyG.of ho h.hW)⟩
theorem PaT.below (h : PaT w wr M g gr A n c ws k b r tv) (hb : Below wr.heap.size wr w') : PaT w w' M g gr A n c ws k b r tv := h.step (h.rd.below hb) (OnlyR.of hb)
theorem PaT.drewN (h : PaT w wr M g gr A n c ws k b r tv) (m : Nat) : PaT w (wr.drewN m) M g gr A n c ws k b r tv := h.below (below_drewN (Below.refl _ _) m)
theorem PaT.drew (h : PaT w wr M g gr A n c ws k b r tv) : PaT w wr.drew M g gr A n c ws k b r tv := h.below (Below.refl _ _).drew
theorem PaT.alloc (h : PaT w wr M g gr A n c ws k b r tv) (o : Obj) : PaT w (wr.alloc o) M g gr A n c ws k b r tv := h.below ((Below.refl _ _).alloc (Nat.le_refl _) o)
theorem PaT.put (h : PaT w wr M g gr A n c ws k b r tv) (i : Nat) (v : Value) (e : (rulC r tv).setIfInBounds i v = rulC r' tv) (ht : r'.ts = r.ts) : PaT w (wr.setCell ⟨gr, i, none⟩ v) M g gr A n c ws k b r' tv := by
  have hl := h.lt
  have hx := Blk.put h.x i v
  rw [e] at hx
  exact ⟨⟨Blk.put_other h.rd.blk v (by show g ≠ gr; omega), h.rd.str.setCell (by show g ≤ gr; omega) v, h.rd.len, h.rd.top, h.rd.low⟩, hx, by rw [ht]; exact h.own.setCell (by show gr < gr + 1; omega) _, hl, h.hM, by have := h.hW; simpa [World.setCell] using this,
    h.only.trans ⟨rfl, rfl, rfl, by simp [World.setCell], fun j hj _ => Below.heap_setCell _ _ _ _ (by have := h.hM; show j ≠ gr; omega)⟩⟩
theorem PaT.li (h : PaT w wr M g gr A n c ws k b r tv) (v : Int) : PaT w (wr.setCell ⟨gr, 0, none⟩ (.int .i64 v)) M g gr A n c ws k b { r with li := v } tv := h.put 0 _ rfl rfl
theorem PaT.ac (h : PaT w wr M g gr A n c ws k b r tv) (v : Int) : PaT w (wr.setCell ⟨gr, 1, none⟩ (.int .i64 v)) M g gr A n c ws k b { r with ac := v } tv := h.put 1 _ rfl rfl
theorem PaT.ca (h : PaT w wr M g gr A n c ws k b r tv) (v : Nat) : PaT w (wr.setCell ⟨gr, 2, none⟩ (.int .u64 (v : Int))) M g gr A n c ws k b { r with ca := v } tv := h.put 2 _ rfl rfl
theorem PaT.wa (h : PaT w wr M g gr A n c ws k b r tv) (v : Int) : PaT w (wr.setCell ⟨gr, 4, none⟩ (.int .i64 v)) M g gr A n c ws k b { r with wa := v } tv := h.put 4 _ rfl rfl
theorem PaT.pa (h : PaT w wr M g gr A n c ws k b r tv) (v : ByteArray) : PaT w (wr.setCell ⟨gr, 5, none⟩ (.string v)) M g gr A n c ws k b { r with pa := v } tv := h.put 5 _ rfl rfl
theorem PaT.pe (h : PaT w wr M g gr A n c ws k b r tv) (v : Int) : PaT w (wr.setCell ⟨gr, 6, none⟩ (.int .i64 v)) M g gr A n c ws k b { r with pe := v } tv := h.put 6 _ rfl rfl
theorem PaT.ke (h : PaT w wr M g gr A n c ws k b r tv) (v : ByteArray) : PaT w (wr.setCell ⟨gr, 7, none⟩ (.string v)) M g gr A n c ws k b { r with ke := v } tv := h.put 7 _ rfl rfl
/-- A test has been appended; the slice is stored. -/
theorem PaT.app (h : PaT w wr M g gr A n c ws k b r tv) (t : Tst) {v' : Value} (hg : wr.grownBy w' tv.ownBlock) (ho : OwnT w' (gr + 1) v' (r.ts ++ [t])) :
    RulB w' gr r tv ∧ PaT w (w'.setCell ⟨gr, 3, none⟩ v') M g gr A n c ws k b { r with ts := r.ts ++ [t] } v' := by
  have hl := h.lt
  have hM := h.hM
  have hge := h.own.ge
  have hr : ∀ k, tv.ownBlock = some k → gr < k := fun k hk => by have := hge k hk; omega
  have cb : RulB w' gr r tv := Blk.grown h.x hg (fun e => by have := hr _ e; omega)
  have hbl : Below (gr + 1) wr w' := ⟨hg.os, hg.tape, hg.output, hg.size, fun i hi => hg.block i (by have := h.x.lt; omega) (fun e => by have := hr _ e.symm; omega)⟩
  have hrd : RdS w' g A n c ws k b := ⟨Blk.keep h.rd.blk hbl (by omega), h.rd.str.keep hbl (by omega), h.rd.len, h.rd.top, h.rd.low⟩
  exact ⟨cb, ⟨⟨Blk.put_other hrd.blk _ (by show g ≠ gr; omega), hrd.str.setCell (by show g ≤ gr; omega) _, hrd.len, hrd.top, hrd.low⟩, Blk.put cb 3 v', ho.setCell (by show gr < gr + 1; omega) _, hl, hM, by have := h.hW; have := hg.size; simp [World.setCell]; omega,
    (h.only.trans (OnlyG.ofB (hbl.mono (by omega)))).trans ⟨rfl, rfl, rfl, by simp [World.setCell], fun j hj _ => Below.heap_setCell _ _ _ _ (by show j ≠ gr; omega)⟩⟩⟩
theorem PaT.at (h : PaT w wr M g gr A n c ws k b r tv) : PaT wr wr gr g gr A n c ws k b r tv := ⟨h.rd, h.x, h.own, h.lt, Nat.le_refl _, Nat.le_of_lt h.x.lt, OnlyG.refl _ _ _⟩
theorem PaT.then {tv' : Value} (h : PaT w wr M g gr A n c ws k b r tv) (q : PaT wr w' gr g gr A n c ws k' b' r' tv') : PaT w w' M g gr A n c ws k' b' r' tv' := ⟨q.rd, q.x, q.own, q.lt, h.hM, Nat.le_trans h.hW q.only.size, h.only.trans (q.only.mono h.hM)⟩
theorem PaT.form (h : PaT w wr M g gr A n c ws k b r tv) : ∃ T tc, tv = .slice T r.ts.length tc ∧ TestsAt wr wr.heap.size T r.ts := by
  obtain ⟨T, tc, e, ht⟩ := h.own.tests
  exact ⟨T, tc, e, ht⟩
end
/-- What part leaves. -/
def PartPost (ws : List ByteArray) (A : Option Addr) (n c k : Nat) (b : Bool) (g gr : Nat) (r : Rul) (s : ByteArray) (w : World) (e : Ending) (w' : World) : Prop :=
  ∃ (r' : Rul) (tv' : Value) (b' : Bool), e = .returned (.tuple #[]) ∧ PaT w w' gr g gr A n c ws k b' r' tv' ∧ (∀ m, RdR r m → RdR r' (m + 1)) ∧ (∀ p : Part, p.ok → p.txt = s → r' = r.put p ∧ b' = b)
end Go.Proofs.YtbbihfafkpniiaaGreatDoor
/- The reader of the program's Parse: part. -/
namespace Go.Proofs.YtbbihfafkpniiaaGreatDoor
open Go.RowKit
theorem vcp_path (s : ByteArray) (w : World) : Calls Tryz.prog 107 #[.string s, .string ⟨#[112, 97, 116, 104, 61]⟩] w fun e w' => e = .returned (.tuple #[.string ⟨(Lib.trimPrefix s.data.toList pathW.data.toList).toArray⟩, .bool (Lib.hasPrefix s.data.toList pathW.data.toList)]) ∧ w = w' := vcutprefixP s pathW w
theorem vcp_dir (s : ByteArray) (w : World) : Calls Tryz.prog 107 #[.string s, .string ⟨#[100, 105, 114, 61]⟩] w fun e w' => e = .returned (.tuple #[.string ⟨(Lib.trimPrefix s.data.toList dirW.data.toList).toArray⟩, .bool (Lib.hasPrefix s.data.toList dirW.data.toList)]) ∧ w = w' := vcutprefixP s dirW w
theorem vcp_perm (s : ByteArray) (w : World) : Calls Tryz.prog 107 #[.string s, .string ⟨#[112, 101, 114, 109, 61]⟩] w fun e w' => e = .returned (.tuple #[.string ⟨(Lib.trimPrefix s.data.toList permW.data.toList).toArray⟩, .bool (Lib.hasPrefix s.data.toList permW.data.toList)]) ∧ w = w' := vcutprefixP s permW w
attribute [local irreducible] unqS unqE quoteS permS permL checkR pathW dirW permW Lib.hasPrefix Lib.trimPrefix
set_option maxRecDepth 100000 in
set_option maxHeartbeats 4000000 in
theorem vpart (ws : List ByteArray) (A : Option Addr) (n c k : Nat) (b : Bool) (g gr : Nat) (r : Rul) (tv : Value) (s : ByteArray) (hs : s.size ≤ 100000) (hl : r.ts.length ≤ 200000) (w0 w : World) (h : PaT w w gr g gr A n c ws k b r tv) (hG : Gl w0 g w) :
    Calls Tryz.prog 89 #[.pointer (some ⟨g, 0, none⟩), .pointer (some ⟨gr, 0, none⟩), .string s] w (PartPost ws A n c k b g gr r s w) := by
  have H := Lib.hid h
  have HG := Lib.hid hG
  have HW0 := Lib.hid (show w0.heap.size ≤ gr by have := hG.le; have := h.lt; omega)
  clear h hG
  cases e1 : Lib.hasPrefix s.data.toList pathW.data.toList
  case true =>
    have HP := Lib.hid (fun b' hb => put_path (r := r) (b := b) (b' := b') e1 hb)
    have hz := trim_sz s pathW.data.toList
    generalize hX : (⟨(Lib.trimPrefix s.data.toList pathW.data.toList).toArray⟩ : ByteArray) = X at *
    have HX := Lib.hid hX
    clear hX
    go_enter Tryz.func89, Tryz.ntmps89
    go_wp2_with fail
    refine (vcp_path s _).mono ?_
    rintro e w1 ⟨rfl, rfl⟩
    rw [HX.out, e1]
    clear e1
    go_wp2_with fail
    refine (vtext ws A n c k b g X (by omega) _ H.out.rd HG.out.now.tb).mono ?_
    rintro e w2 ⟨b2, rfl, h2, e2, o2⟩
    have ST := Lib.hid (H.out.step h2 o2)
    have E2 := Lib.hid e2
    have c4 := RulB.c4 ST.out.x
    have c5 := RulB.c5 ST.out.x
    have f4 := ST.out.x.free 4
    have f5 := ST.out.x.free 5
    have HU := Lib.hid (unqS_sz X)
    clear h2 e2 o2
    go_wp2_with fail
    go_end0
    exact ⟨_, tv, b2, rfl, (ST.out.wa 1).pa _, fun m hm => ⟨hm.ca, HU.out, hm.ke, hm.ts, by have := hm.ln; show r.ts.length ≤ m + 1; omega⟩, HP.out b2 E2.out⟩
  cases e2 : Lib.hasPrefix s.data.toList dirW.data.toList
  case true =>
    have HP := Lib.hid (fun b' hb => put_dir (r := r) (b := b) (b' := b') e2 hb)
    have hz := trim_sz s dirW.data.toList
    generalize hX : (⟨(Lib.trimPrefix s.data.toList dirW.data.toList).toArray⟩ : ByteArray) = X at *
    have HX := Lib.hid hX
    clear hX
    go_enter Tryz.func89, Tryz.ntmps89
    go_wp2_with fail
    refine (vcp_path s _).mono ?_
    rintro e w1 ⟨rfl, rfl⟩
    rw [e1]
    go_wp2_with fail
    refine (vcp_dir s _).mono ?_
    rintro e w1 ⟨rfl, rfl⟩
    rw [HX.out, e2]
    clear e1 e2
    go_wp2_with fail
    refine (vtext ws A n c k b g X (by omega) _ H.out.rd HG.out.now.tb).mono ?_
    rintro e w2 ⟨b2, rfl, h2, e2, o2⟩
    have ST := Lib.hid (H.out.step h2 o2)
    have E2 := Lib.hid e2
    have c4 := RulB.c4 ST.out.x
    have c5 := RulB.c5 ST.out.x
    have f4 := ST.out.x.free 4
    have f5 := ST.out.x.free 5
    have HU := Lib.hid (unqS_sz X)
    clear h2 e2 o2
    go_wp2_with fail
    go_end0
    exact ⟨_, tv, b2, rfl, (ST.out.wa 2).pa _, fun m hm => ⟨hm.ca, HU.out, hm.ke, hm.ts, by have := hm.ln; show r.ts.length ≤ m + 1; omega⟩, HP.out b2 E2.out⟩
  cases e3 : Lib.hasPrefix s.data.toList permW.data.toList
  case true =>
    have HP := Lib.hid (fun m b' hb => put_perm (r := r) (m := m) (b := b) (b' := b') e3 hb)
    have hz := trim_sz s permW.data.toList
    generalize hX : (⟨(Lib.trimPrefix s.data.toList permW.data.toList).toArray⟩ : ByteArray) = X at *
    have HX := Lib.hid hX
    clear hX
    go_enter Tryz.func89, Tryz.ntmps89
    go_wp2_with fail
    refine (vcp_path s _).mono ?_
    rintro e w1 ⟨rfl, rfl⟩
    rw [e1]
    go_wp2_with fail
    refine (vcp_dir s _).mono ?_
    rintro e w1 ⟨rfl, rfl⟩
    rw [e2]
    go_wp2_with fail
    refine (vcp_perm s _).mono ?_
    rintro e w1 ⟨rfl, rfl⟩
    rw [HX.out, e3]
    clear e1 e2 e3
    go_wp2_with fail
    refine (vperm ws A n c k b g X (by omega) _ H.out.rd HG.out.now.pb).mono ?_
    rintro e w2 ⟨m, b2, rfl, m0, m1, h2, e2, o2⟩
    have ST := Lib.hid (H.out.step h2 o2)
    have E2 := Lib.hid e2
    have c6 := RulB.c6 ST.out.x
    have f6 := ST.out.x.free 6
    clear h2 e2 o2
    go_wp2_with fail
    go_end0
    exact ⟨_, tv, b2, rfl, ST.out.pe m, fun m hm => ⟨hm.ca, hm.pa, hm.ke, hm.ts, by have := hm.ln; show r.ts.length ≤ m + 1; omega⟩, HP.out m b2 E2.out⟩
  have HT := Lib.hid (fun (fd op nu : Int) (tx : ByteArray) (ot : Int) (ht : TIs s fd op nu tx ot 0) => put_tst (r := r) e1 e2 e3 ht)
  have HB := Lib.hid (fun (fd op nu : Int) (tx : ByteArray) (ot er : Int) (ht : TIs s fd op nu tx ot er) (he : er ≠ 0) => put_none e1 e2 e3 ht he)
  go_enter Tryz.func89, Tryz.ntmps89
  go_wp2_with fail
  refine (vcp_path s _).mono ?_
  rintro e w1 ⟨rfl, rfl⟩
  rw [e1]
  go_wp2_with fail
  refine (vcp_dir s _).mono ?_
  rintro e w1 ⟨rfl, rfl⟩
  rw [e2]
  go_wp2_with fail
  refine (vcp_perm s _).mono ?_
  rintro e w1 ⟨rfl, rfl⟩
  rw [e3]
  clear e1 e2 e3
  go_wp2_with fail
  refine (vparseF s (by omega) _ HG.out.now.fn HG.out.now.fo HG.out.envs).mono ?_
  rintro e w2 ⟨fd, op, nu, tx, ot, er, rfl, hti, htx, hnu, hb2⟩
  have ST := Lib.hid ((H.out.below hb2).alloc (.cells (testC fd op nu tx ot) 40))
  have HTI := Lib.hid hti
  have HNX := Lib.hid (show I64 (Tst.mk fd op nu tx ot).nu ∧ (Tst.mk fd op nu tx ot).tx.size ≤ 640 from ⟨hnu, htx⟩)
  have HQ := Lib.hid (Blk.new w2 (testC fd op nu tx ot) 40)
  clear hb2 hti htx hnu
  by_cases he : er = 0
  · subst he
    have qA := RulB.c3 ST.out.x
    have hgc := ST.out.x.lt
    have HLB := Lib.hid hl
    have hp0 : (⟨w2.heap.size, 0, none⟩ : Addr).block < (w2.alloc (.cells (testC fd op nu tx ot) 40)).drew.heap.size := by simp
    go_upto_region 12 with (fail)
    generalize w2.alloc (.cells (testC fd op nu tx ot) 40) = W0 at *
    have d0 : W0.cell? ⟨w2.heap.size, 0, none⟩ = some (.int .i64 fd) := HQ.out.cell 0
    have d1 : W0.cell? ⟨w2.heap.size, 1, none⟩ = some (.int .i64 op) := HQ.out.cell 1
    have d2 : W0.cell? ⟨w2.heap.size, 2, none⟩ = some (.int .i64 nu) := HQ.out.cell 2
    have d3 : W0.cell? ⟨w2.heap.size, 3, none⟩ = some (.string tx) := HQ.out.cell 3
    have d4 : W0.cell? ⟨w2.heap.size, 4, none⟩ = some (.int .i64 ot) := HQ.out.cell 4
    have st3 := ST.out.drew
    have qC := RulB.c3 (ST.out.alloc (.cells (testC fd op nu tx ot) 40)).x
    go_region_law
      (first
        | (refine step_append_tst (by rfl) (.tmp 70) (.tmp 72) (by rfl) (gr + 1) tv r.ts (by rfl) (by exact (st3.alloc _).own) ⟨W0.heap.size, 0, none⟩ ⟨fd, op, nu, tx, ot⟩ (by rfl) (by exact row_newT W0.drew (testC fd op nu tx ot) 40) (by omega) (by simp; omega) ?_; intro v4 w4 own4 hg4 hat4; obtain ⟨g4, c4, hv4⟩ := Joins.ownsRow_form own4 (by simp); subst hv4; obtain ⟨cb4, st4⟩ := (st3.alloc (.cells (testC fd op nu tx ot) 40)).app ⟨fd, op, nu, tx, ot⟩ hg4 own4; have qB := RulB.c3 cb4; have fB := cb4.free 3))
    all_goals
      simp only [List.length_append, List.length_cons, List.length_nil, Nat.zero_add] at st4
      have ST4 := Lib.hid st4
      clear qA qB qC fB cb4 own4 st3 st4 hg4 hat4
      go_wp2_with fail
      go_end0
      exact ⟨_, _, b, rfl, ST4.out, fun m hm => hm.app HNX.out, fun p hp e => ⟨HT.out fd op nu tx ot HTI.out p hp e, rfl⟩⟩
  · have t1 : (er != 0) = true := by simpa using he
    have HE := Lib.hid (show ∀ p : Part, p.ok → p.txt = s → r = r.put p ∧ true = b from fun p hp e => (HB.out fd op nu tx ot er HTI.out he p hp e).elim)
    have k2 := RdB.c2 ST.out.rd.blk
    have f2 := ST.out.rd.blk.free 2
    clear he
    go_wp2_with fail
    go_end0
    exact ⟨r, tv, true, rfl, ST.out.step ST.out.rd.bad ((OnlyR.refl g _).put 2 _), fun m hm => hm.more (by omega), HE.out⟩
end Go.Proofs.YtbbihfafkpniiaaGreatDoor
