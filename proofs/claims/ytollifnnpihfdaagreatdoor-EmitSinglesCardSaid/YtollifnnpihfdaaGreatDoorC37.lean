/- Texts of one proof, laid together. -/
import Derived.Test.YtollifnnpihfdaaGreatDoorC15
import Derived.Deep.RegionLaw
import Derived.Deep.RegionWith
import Derived.Deep.DeepCutAuto
import Derived.Deep.CutBlock
import Derived.Maps.AppendAt
import Derived.Test.YtollifnnpihfdaaGreatDoorC24
import Derived.Test.YtollifnnpihfdaaGreatDoorC12
import Derived.Test.YtollifnnpihfdaaGreatDoorC11
import Derived.Test.YtollifnnpihfdaaGreatDoorC08
import Derived.Test.YtollifnnpihfdaaGreatDoorC17
import Derived.Test.YtollifnnpihfdaaGreatDoorC35
import Derived.Test.YtollifnnpihfdaaGreatDoorC36
import Derived.Test.YtollifnnpihfdaaGreatDoorC31
/- append of one test to tests of the call's own. -/
namespace Go.Proofs.YtollifnnpihfdaaGreatDoor
open Go.RowKit
theorem row_newT (w : World) (cs : Array Value) (t : TypeId) (j : Nat) (u : Value) (h : cs.toList[j]? = some u) : (w.alloc (.cells cs t)).cell? ((⟨w.heap.size, 0, none⟩ : Addr).add j) = some u := by
  rw [addT_zero, (Blk.new w cs t).cell]
  simpa using h
theorem run_append_tst (w : World) (base : Nat) (ty : TypeId) (v : Value) (L : List Tst) (ad : Addr) (t : Tst) (hown : OwnT w base v L) (hr : ∀ j u, (tstC t).toList[j]? = some u → w.cell? (ad.add j) = some u) (hlen : L.length ≤ 1000000) (hbase : base ≤ w.heap.size) :
    ∃ v' w', (Builtin.append_ #[86, 86] ty #[v, .slice (some ad) 1 1]).run Tryz.prog w = .ok v' w' ∧ OwnT w' base v' (L ++ [t]) ∧ w.grownBy w' v.ownBlock ∧ (v'.ownBlock = v.ownBlock ∨ v'.ownBlock = some w.heap.size) := by
  obtain ⟨i0, hi, hz0, hz1, hz2⟩ := info_parts Tryz.infoT
  obtain ⟨v', w', hrun, h2, h3, _, h4⟩ := run_append_own_at (P := Tryz.prog) w base 86 ty 85 i0 _ 5 48 Tryz.underlying86 hi hz0 hz1 hz2 rfl (by omega) v L.length _ hown ad 1 1 (tstC t).toList rfl hr (by
      intro u hu
      have := tst_one t
      rw [← Array.all_toList, List.all_eq_true] at this
      exact this u hu) (by unfold maxLen; omega) (by omega) hbase
  refine ⟨v', w', hrun, ?_, h3, h4⟩
  show w'.ownsRow base 85 5 v' (L ++ [t]).length ((L ++ [t]).flatMap fun t => (tstC t).toList)
  rw [List.length_append, List.flatMap_append]
  simpa using h2
theorem step_append_tst {ops : Array Oper} {o : Oper} {a : Act} {w : World} {K : Act → World → Prop} {Q : Exit → Act → World → Prop} {E : Prop} (hgd : o.guard = none) (s x : Operand) (ho : o.op = .call { callee := .builtin .append, args := #[s, x], argTypes := #[86, 86] })
    (base : Nat) (v : Value) (L : List Tst) (hs : a.eval s = v) (hown : OwnT w base v L) (ad : Addr) (t : Tst) (hx : a.eval x = .slice (some ad) 1 1) (hr : ∀ j u, (tstC t).toList[j]? = some u → w.cell? (ad.add j) = some u) (hlen : L.length ≤ 1000000) (hbase : base ≤ w.heap.size)
    (h : ∀ v' w', OwnT w' base v' (L ++ [t]) → w.grownBy w' v.ownBlock → (v'.ownBlock = v.ownBlock ∨ v'.ownBlock = some w.heap.size) → K (a.put o.dst v') w') :
    if Region.wanted o (yielded ops a.tmps) = true then Oper.wp Tryz.prog o a w K Q else E := by
  have hw : Region.wanted o (yielded ops a.tmps) = true := by simp [Region.wanted, hgd]
  rw [if_pos hw]
  obtain ⟨v', w', hrun, h2, h3, h4⟩ := run_append_tst w base o.type v L ad t hown hr hlen hbase
  unfold Oper.wp execOp
  simp only [ho, resolve, invoke, builtin, Sem.run_bind, Sem.run_pure, Result.andThen_ok, List.map_toArray, List.map_cons, List.map_nil, hs, hx, hrun]
  exact h v' w' h2 h3 h4
end Go.Proofs.YtollifnnpihfdaaGreatDoor
/- The short form of rules: the program's short, the reference's Short. -/
namespace Go.Proofs.YtollifnnpihfdaaGreatDoor
open Go.RowKit
theorem text_w (f Q P : ByteArray) : f ++ ⟨#[32]⟩ ++ Q ++ ⟨#[32, 45, 112, 32]⟩ ++ P = catW f [Q, fP, P] := by
  show _ = f ++ ((⟨#[32]⟩ : ByteArray) ++ Q) ++ (⟨#[32]⟩ ++ fP) ++ (⟨#[32]⟩ ++ P)
  apply ByteArray.ext; apply Array.ext'; simp [fP]
theorem short_text (r : Rul) : catW (flagW r.wa) [quoteS r.pa, fP, permS r.pe] ++ keyT r.ke = shortT r := by
  rw [text_key]; rfl
theorem short_text2 (r : Rul) (f : ByteArray) (h : f ++ ⟨#[32]⟩ = flagW r.wa ++ ⟨#[32]⟩) : f ++ ⟨#[32]⟩ ++ quoteS r.pa ++ ⟨#[32, 45, 112, 32]⟩ ++ permS r.pe ++ keyT r.ke = shortT r := by
  rw [h, text_w, short_text]
attribute [local irreducible] checkF watchB callsB firstE checkR cleanB callsOk textR headW maskS quoteS testS anyE permS catW listN actN cellsAc cellsLi keyT shortT
end Go.Proofs.YtollifnnpihfdaaGreatDoor
/- The reader of the program's Parse: its block, and plain facts of its words. -/
namespace Go.Proofs.YtollifnnpihfdaaGreatDoor
open Go.RowKit
/-- Nothing that was there has turned but block g. -/
def OnlyR (g : Nat) (w w' : World) : Prop := w.grownBy w' (some g)
theorem OnlyR.refl (g : Nat) (w : World) : OnlyR g w w := ⟨rfl, rfl, rfl, Nat.le_refl _, fun _ _ _ => rfl⟩
theorem OnlyR.trans {g : Nat} {a b c : World} (h : OnlyR g a b) (k : OnlyR g b c) : OnlyR g a c :=
  ⟨k.os.trans h.os, k.tape.trans h.tape, k.output.trans h.output, Nat.le_trans h.size k.size, fun i hi hne => (k.block i (Nat.lt_of_lt_of_le hi h.size) hne).trans (h.block i hi hne)⟩
theorem OnlyR.of {g : Nat} {w w' : World} (h : Below w.heap.size w w') : OnlyR g w w' := ⟨h.os, h.tape, h.output, h.size, fun i hi _ => h.block i hi⟩
theorem OnlyR.drewN {g : Nat} {a w : World} (h : OnlyR g a w) (n : Nat) : OnlyR g a (w.drewN n) := ⟨h.os, h.tape, h.output, h.size, h.block⟩
theorem OnlyR.put {g : Nat} {a w : World} (h : OnlyR g a w) (j : Nat) (v : Value) : OnlyR g a (w.setCell ⟨g, j, none⟩ v) :=
  h.trans ⟨rfl, rfl, rfl, by simp [World.setCell], fun i _ hne => Below.heap_setCell _ _ _ _ (fun e => hne (by rw [e]))⟩
theorem OnlyR.then {g : Nat} {a w w' : World} (h : OnlyR g a w) (k : Below w.heap.size w w') : OnlyR g a w' := h.trans (OnlyR.of k)
theorem OnlyR.low {B g : Nat} {a w w' : World} (h : Below B a w) (k : OnlyR g w w') (hB : B ≤ g) (hg : g < w.heap.size) : Below B a w' :=
  h.grown k (by omega) (fun i e => by injection e with e; omega)
theorem OnlyR.below {B g : Nat} {w w' : World} (k : OnlyR g w w') (hB : B ≤ g) (hg : g ≤ w.heap.size) : Below B w w' :=
  ⟨k.os, k.tape, k.output, k.size, fun i hi => k.block i (by omega) (fun e => by injection e with e; omega)⟩
theorem Blk.onlyR {w w' : World} {g k : Nat} {t : TypeId} {cs : Array Value} (h : Blk w k t cs) (ho : OnlyR g w w') (hne : k ≠ g) : Blk w' k t cs :=
  (ho.block k h.lt (fun e => hne (by injection e))).trans h
theorem StrsAt.onlyR {w w' : World} {g : Nat} {A : Option Addr} {ss : List ByteArray} (h : StrsAt w g A ss) (ho : OnlyR g w w') (hg : g ≤ w.heap.size) : StrsAt w' g A ss :=
  h.keep (ho.below (Nat.le_refl _) hg) (Nat.le_refl _)
section
variable {w0 w w' : World} {g : Nat}
end
/-- A reader's cells. -/
abbrev rdC (v : Value) (k : Nat) (b : Bool) : Array Value := #[v, .int .i64 (k : Int), .bool b]
section
variable {w : World} {g k : Nat} {v : Value} {b : Bool}
end
section
variable {w w' : World} {g n c k : Nat} {A : Option Addr} {ws : List ByteArray} {b : Bool}
end
/-- The word at k, or none. -/
def wordAt (ws : List ByteArray) (k : Nat) : ByteArray := ws.getD k ⟨#[]⟩
theorem wordAt_end {ws : List ByteArray} {k : Nat} (h : ws.length ≤ k) : wordAt ws k = ⟨#[]⟩ := by unfold wordAt; rw [List.getD_eq_getElem?_getD, List.getElem?_eq_none h]; rfl
theorem wordAt_in {ws : List ByteArray} {k : Nat} (h : k < ws.length) : wordAt ws k = ws[k] := by unfold wordAt; rw [List.getD_eq_getElem?_getD, List.getElem?_eq_getElem h]; rfl
theorem wordAt_some {ws : List ByteArray} {k : Nat} {s : ByteArray} (h : ws[k]? = some s) : wordAt ws k = s ∧ k < ws.length := by
  refine ⟨by unfold wordAt; rw [List.getD_eq_getElem?_getD, h]; rfl, (List.getElem?_eq_some_iff.1 h).1⟩
theorem wordAt_size {ws : List ByteArray} {m : Nat} (h : ∀ x ∈ ws, x.size ≤ m) (k : Nat) : (wordAt ws k).size ≤ m := by
  by_cases hk : k < ws.length
  · rw [wordAt_in hk]; exact h _ (List.getElem_mem hk)
  · rw [wordAt_end (by omega)]; exact Nat.zero_le _
theorem unqS_sz (s : ByteArray) : (unqS s).size ≤ 640 := by
  cases h : unqO s.data.toList with
  | none => rw [unqS_none h]; decide
  | some t =>
    rw [unqS_some h]
    have := (of_unqO h).2
    show t.toArray.size ≤ 640
    simpa using this
/-- A word is a flag, or none: as the walk asks. -/
theorem lit_eq {x : ByteArray} {f : ByteArray} {l : List UInt8} (hf : f.toList = l) (h : x = f) : (x.toList == l) = true := by have := str_eq h; rwa [hf] at this
theorem lit_ne {x : ByteArray} {f : ByteArray} {l : List UInt8} (hf : f.toList = l) (h : x ≠ f) : (x.toList == l) = false := by have := str_ne h; rwa [hf] at this
theorem lit_dec {x : ByteArray} {f : ByteArray} {l : List UInt8} (hf : f.toList = l) : ∃ t : Bool, (x.toList == l) = t ∧ (t = true → x = f) ∧ (t = false → x ≠ f) := by
  by_cases h : x = f
  · exact ⟨true, lit_eq hf h, fun _ => h, fun e => absurd e (by decide)⟩
  · exact ⟨false, lit_ne hf h, fun e => absurd e (by decide), fun _ => h⟩
theorem fT_l : fT.toList = [45, 116] := by decide +kernel
theorem fW_l : fW.toList = [45, 119] := by decide +kernel
theorem fS_l : fS.toList = [45, 83] := by decide +kernel
theorem fF_l : fF.toList = [45, 70] := by decide +kernel
theorem fC_l : fC.toList = [45, 67] := by decide +kernel
/-- The key at the end of words. -/
def KeyAt (ws : List ByteArray) (k : Nat) (q : ByteArray) : Prop := (ws.length = k ∧ q = ⟨#[]⟩) ∨ (ws.length = k + 2 ∧ ws[k]? = some fK ∧ ws[k + 1]? = some (quoteS q) ∧ q.size ≤ 31)
/-- The letter's bit. -/
def permB1 (c : UInt8) : Option Nat := if c = 114 then some 4 else if c = 119 then some 2 else if c = 120 then some 1 else if c = 97 then some 8 else none
/-- The set that letters say. -/
def permL : Nat → List UInt8 → Option Nat
  | a, [] => some a
  | a, c :: l => match permB1 c with
    | some b => permL (a ||| b) l
    | none => none
theorem permL_permS {m : Int} (h : 1 ≤ m ∧ m ≤ 15) : permL 0 (permS m).data.toList = some m.toNat := by
  have H : ∀ j : Fin 16, permL 0 (permS (j.val : Int)).data.toList = some j.val := by decide +kernel
  have := H ⟨m.toNat, by omega⟩
  rwa [show (((⟨m.toNat, by omega⟩ : Fin 16).val : Nat) : Int) = m from by show ((m.toNat : Nat) : Int) = m; omega] at this
/-- The words of a shorthand. -/
theorem short_words {r0 : Rul} (h : shortB r0 = true) {ws : List ByteArray} (e : ws = flagW r0.wa :: restW r0) :
    ws[0]? = some (flagW r0.wa) ∧ ws[1]? = some (quoteS r0.pa) ∧ ws[2]? = some fP ∧ ws[3]? = some (permS r0.pe) ∧ KeyAt ws 4 r0.ke := by
  obtain ⟨h1, _⟩ := shortB_spec h
  have hke := (checkR_zero h1).key
  subst e
  unfold restW
  refine ⟨rfl, rfl, rfl, rfl, ?_⟩
  unfold keyW KeyAt
  by_cases hz : r0.ke.size = 0
  · rw [if_pos hz]; exact .inl ⟨rfl, ke_zero hz⟩
  · rw [if_neg hz]; exact .inr ⟨rfl, rfl, rfl, hke⟩
theorem key_at {r0 : Rul} {k : Nat} (hk : k = a0R r0 + 2 * (partsR r0).length) (hok : checkR r0 = 0) : KeyAt (wordsR r0) k r0.ke := key_end hk hok
end Go.Proofs.YtollifnnpihfdaaGreatDoor
/- The small functions of the reader of the program's Parse: peek, next, word, text. -/
namespace Go.Proofs.YtollifnnpihfdaaGreatDoor
open Go.RowKit
def nextK (n k : Nat) : Nat := if k < n then k + 1 else k
theorem nextK_in {n k : Nat} (h : k < n) : nextK n k = k + 1 := if_pos h
theorem nextK_end {n k : Nat} (h : ¬ k < n) : nextK n k = k := if_neg h
attribute [local irreducible] unqS unqE quoteS
end Go.Proofs.YtollifnnpihfdaaGreatDoor
/- The reader of the program's Parse: perm and key. -/
namespace Go.Proofs.YtollifnnpihfdaaGreatDoor
open Go.RowKit
theorem permB1_none {c : UInt8} (h : permB1 c = none) : Lib.indexByte [114, 119, 120, 97] c = -1 := by
  unfold permB1 at h
  split at h; · cases h
  split at h; · cases h
  split at h; · cases h
  split at h; · cases h
  rename_i h1 h2 h3 h4
  have e1 : ((114 : UInt8) == c) = false := by simpa using fun e => h1 e.symm
  have e2 : ((119 : UInt8) == c) = false := by simpa using fun e => h2 e.symm
  have e3 : ((120 : UInt8) == c) = false := by simpa using fun e => h3 e.symm
  have e4 : ((97 : UInt8) == c) = false := by simpa using fun e => h4 e.symm
  simp [Lib.indexByte, e1, e2, e3, e4]
theorem permB1_some {c : UInt8} {m : Nat} (h : permB1 c = some m) : ∃ j : Nat, j < 4 ∧ Lib.indexByte [114, 119, 120, 97] c = (j : Int) ∧ bitN j = (m : Int) ∧ m ≤ 8 := by
  unfold permB1 at h
  split at h
  · rename_i e; subst e; cases h; exact ⟨0, by omega, by decide, by decide, by omega⟩
  split at h
  · rename_i e; subst e; cases h; exact ⟨1, by omega, by decide, by decide, by omega⟩
  split at h
  · rename_i e; subst e; cases h; exact ⟨2, by omega, by decide, by decide, by omega⟩
  split at h
  · rename_i e; subst e; cases h; exact ⟨3, by omega, by decide, by decide, by omega⟩
  · cases h
theorem perm_or {a m j : Nat} (ha : a ≤ 15) (hj : j < 4) (hm : bitN j = (m : Int)) : bits .or .i64 (a : Int) (bitN j) = ((a ||| m : Nat) : Int) ∧ a ||| m ≤ 15 := by
  have H : ∀ (a : Fin 16) (j : Fin 4), bits .or .i64 (a.val : Int) (bitN j.val) = ((a.val ||| (bitN j.val).toNat : Nat) : Int) ∧ a.val ||| (bitN j.val).toNat ≤ 15 := by decide +kernel
  have := H ⟨a, by omega⟩ ⟨j, hj⟩
  rw [hm] at this
  rw [hm]
  exact this
theorem permL_step {a m : Nat} {l : List UInt8} {k : Nat} (hk : k < l.length) (h : permB1 l[k] = some m) : permL a (l.drop k) = permL (a ||| m) (l.drop (k + 1)) := by
  rw [List.drop_eq_getElem_cons hk]
  show (match permB1 l[k] with | some b => permL (a ||| b) (l.drop (k + 1)) | none => none) = _
  rw [h]
theorem permL_stop {a : Nat} {l : List UInt8} {k : Nat} (hk : k < l.length) (h : permB1 l[k] = none) : permL a (l.drop k) = none := by
  rw [List.drop_eq_getElem_cons hk]
  show (match permB1 l[k] with | some b => permL (a ||| b) (l.drop (k + 1)) | none => none) = _
  rw [h]
theorem pbc_at {k : Nat} (hk : k < 4) : cellsPb[k]? = some (.int .i64 (bitN k)) := by
  have : k = 0 ∨ k = 1 ∨ k = 2 ∨ k = 3 := by omega
  rcases this with rfl | rfl | rfl | rfl <;> rfl
attribute [local irreducible] cellsPb bitN permL permB1 permS
attribute [local irreducible] unqS unqE quoteS
end Go.Proofs.YtollifnnpihfdaaGreatDoor
/- The reader of the program's Parse: shorthand. -/
namespace Go.Proofs.YtollifnnpihfdaaGreatDoor
open Go.RowKit
/-- No tests. -/
abbrev noT : Value := .slice none 0 0
theorem rul_ret1 {fn : Func} (h : fn.results = #[.cell 2 90]) (tmps : Array Value) (w : World) (g : Nat) (r : Rul) (v : Value) (hp : tmps.getD 2 undef = .pointer (some ⟨g, 0, none⟩)) (hg : RulB w g r v) :
    (results fn tmps).run Tryz.prog w = .ok (rulV r v) w :=
  results_cell_row h tmps w g _ (rulC r v) (0, 0) _ hp hg Tryz.underlying90 rfl (rul_sz r v)
section
variable {w wr w' : World} {g n c k k' : Nat} {A : Option Addr} {ws : List ByteArray} {b b' : Bool} {r r' : Rul}
end
/-- A rule that shorthand makes. -/
structure HandR (r : Rul) : Prop where
  li : r.li = 3
  ac : r.ac = 1
  ca : r.ca = allCalls
  ts : r.ts = []
  wa : r.wa = 1 ∨ r.wa = 2
  pa : r.pa.size ≤ 640
  pe : 0 ≤ r.pe ∧ r.pe ≤ 15
  ke : r.ke.size ≤ 640
theorem hand_ok {r0 : Rul} {wa pe : Int} {pa ke : ByteArray} (h : shortB r0 = true) (h1 : wa = r0.wa) (h2 : pa = r0.pa) (h3 : pe = r0.pe) (h4 : ke = r0.ke) : (⟨3, 1, allCalls, [], wa, pa, pe, ke⟩ : Rul) = r0 := by
  obtain ⟨a1, a2, a3, a4, a5, a6⟩ := shortB_spec h
  subst h1 h2 h3 h4
  cases r0; simp at *; simp [a3, a4, a5, a6]
theorem flag_wa {r0 : Rul} (h : shortB r0 = true) : (flagW r0.wa = fT → r0.wa = 2) ∧ (flagW r0.wa ≠ fT → r0.wa = 1) := by
  obtain ⟨a1, a2, _⟩ := shortB_spec h
  rcases watch_ok (checkR_zero a1) with ⟨h0, _⟩ | ⟨h1, _⟩
  · exact absurd h0 a2
  · unfold flagW
    rcases h1 with h1 | h1
    · rw [h1, if_neg (by omega)]; exact ⟨fun e => absurd e (by decide), fun _ => rfl⟩
    · rw [h1, if_pos rfl]; exact ⟨fun _ => rfl, fun e => absurd rfl e⟩
/-- What has been read, in the end. -/
theorem hand_end {ws : List ByteArray} {n : Nat} {wa pe : Int} {pa ke : ByteArray} {k' : Nat} {b1 b2 b3 b4 b5 b6 b7 : Bool} (hl : n = ws.length)
    (hwa : (wordAt ws 0 = fT ∧ wa = 2) ∨ (wordAt ws 0 ≠ fT ∧ wa = 1)) (e1 : 0 < n → b1 = false) (e2 : 1 < n → b2 = b1) (e3 : unqE (wordAt ws 1) = 0 → b3 = b2) (hp : pa = unqS (wordAt ws 1))
    (e4 : ws[2]? = some fP → b4 = b3) (e5 : 3 < n → b5 = b4) (e6 : ∀ q : Int, 1 ≤ q → q ≤ 15 → wordAt ws 3 = permS q → pe = q ∧ b6 = b5) (e7 : 3 < n → ∀ q, KeyAt ws 4 q → ke = q ∧ k' = n ∧ b7 = b6) :
    ∀ r0, shortB r0 = true → ws = flagW r0.wa :: restW r0 → (⟨3, 1, allCalls, [], wa, pa, pe, ke⟩ : Rul) = r0 ∧ k' = n ∧ b7 = false := by
  intro r0 h e
  obtain ⟨w0, w1, w2, w3, hk⟩ := short_words h e
  obtain ⟨a1, a2, _⟩ := shortB_spec h
  have hlen : 3 < ws.length := (wordAt_some w3).2
  obtain ⟨g0, g1⟩ := flag_wa h
  rw [(wordAt_some w0).1] at hwa
  rw [(wordAt_some w1).1] at e3 hp
  rw [(wordAt_some w3).1] at e6
  rcases watch_ok (checkR_zero a1) with ⟨z, _⟩ | ⟨z1, _, _, z4, z5, z6⟩
  · exact absurd z a2
  obtain ⟨u1, u2⟩ := unq_quoteF (t := r0.pa) (by omega)
  obtain ⟨p1, p2⟩ := e6 _ z5 z6 rfl
  obtain ⟨k1, k2, k3⟩ := e7 (by omega) _ hk
  refine ⟨hand_ok h ?_ (by rw [hp, u1]) p1 k1, k2, ?_⟩
  · rcases hwa with ⟨x, y⟩ | ⟨x, y⟩
    · rw [y, g0 x]
    · rw [y, g1 x]
  · rw [k3, p2, e5 (by omega), e4 w2, e3 u2, e2 (by omega), e1 (by omega)]
theorem short_len {r0 : Rul} (h : shortB r0 = true) {ws : List ByteArray} (e : ws = flagW r0.wa :: restW r0) : 3 < ws.length := (wordAt_some (short_words h e).2.2.2.1).2
attribute [local irreducible] unqS unqE quoteS permS permL
end Go.Proofs.YtollifnnpihfdaaGreatDoor
/- The source of numbers of package kauditmake: Rule. -/
namespace Go.Proofs.YtollifnnpihfdaaGreatDoor
open Go.RowKit
/-- Bounds of a rule that is made. -/
structure MkR (r : Rul) : Prop where
  ca : r.ca < 18446744073709551616
  pa : r.pa.size ≤ 10
  ke : r.ke.size ≤ 10
  ts : ∀ t ∈ r.ts, (-13 ≤ t.nu ∧ t.nu ≤ 4294967295) ∧ t.tx.size ≤ 5
/-- What Rule keeps: the source, the rule so far and its tests, the block of the result. -/
structure Ru1 (w wr : World) (base g : Nat) (b : Int) (gc : Nat) (r : Rul) (tv : Value) : Prop where
  only : w.grownBy wr (some g)
  src : SrcOk wr base g b
  rb : RulB wr w.heap.size zeroR noT
  cb : RulB wr gc r tv
  own : OwnT wr (gc + 1) tv r.ts
  fit : MkR r
  h2 : w.heap.size < gc
  h3 : g < w.heap.size
  h4 : base ≤ w.heap.size
section
variable {w wr w' : World} {base g gc : Nat} {b b' : Int} {r r' : Rul} {tv : Value}
theorem Ru1.alloc (h : Ru1 w wr base g b gc r tv) (o : Obj) : Ru1 w (wr.alloc o) base g b gc r tv := ⟨only_alloc h.only o, h.src.alloc o, Blk.alloc h.rb o, Blk.alloc h.cb o, h.own.alloc o, h.fit, h.h2, h.h3, h.h4⟩
theorem Ru1.drew (h : Ru1 w wr base g b gc r tv) : Ru1 w wr.drew base g b gc r tv := ⟨⟨h.only.os, h.only.tape, h.only.output, h.only.size, h.only.block⟩, h.src.drew, h.rb, h.cb, h.own, h.fit, h.h2, h.h3, h.h4⟩
theorem Ru1.step (h : Ru1 w wr base g b gc r tv) (hs : SrcOk w' base g b') (hg : wr.grownBy w' (some g)) : Ru1 w w' base g b' gc r tv :=
  ⟨h.only.trans hg, hs, Blk.grown h.rb hg (fun e => by injection e with e; have := h.h3; omega), Blk.grown h.cb hg (fun e => by injection e with e; have := h.h2; have := h.h3; omega), h.own.only hg (by have := h.h2; have := h.h3; omega), h.fit, h.h2, h.h3, h.h4⟩
theorem Ru1.more (h : Ru1 w wr base g b gc r tv) (hb : b ≤ b') : Ru1 w wr base g b' gc r tv := ⟨h.only, h.src.more hb, h.rb, h.cb, h.own, h.fit, h.h2, h.h3, h.h4⟩
theorem Ru1.lt (h : Ru1 w wr base g b gc r tv) : g < wr.heap.size := src_lt h.src
theorem Ru1.put (h : Ru1 w wr base g b gc r tv) (i : Nat) (v : Value) (e : (rulC r tv).setIfInBounds i v = rulC r' tv) (ht : r'.ts = r.ts) (hm : MkR r') : Ru1 w (wr.setCell ⟨gc, i, none⟩ v) base g b gc r' tv := by
  have h2 := h.h2
  have h3 := h.h3
  have h4 := h.h4
  have hx := Blk.put h.cb i v
  rw [e] at hx
  exact ⟨only_setCell h.only (.inr (by show w.heap.size ≤ gc; omega)) _, h.src.setCell (by show base ≤ gc; omega) (by show gc ≠ g; omega) _, Blk.put_other h.rb _ (by show w.heap.size ≠ gc; omega), hx, by rw [ht]; exact h.own.setCell (by show gc < gc + 1; omega) _, hm, h2, h3, h4⟩
theorem Ru1.li (h : Ru1 w wr base g b gc r tv) (v : Int) : Ru1 w (wr.setCell ⟨gc, 0, none⟩ (.int .i64 v)) base g b gc { r with li := v } tv := h.put 0 _ rfl rfl ⟨h.fit.ca, h.fit.pa, h.fit.ke, h.fit.ts⟩
theorem Ru1.ac (h : Ru1 w wr base g b gc r tv) (v : Int) : Ru1 w (wr.setCell ⟨gc, 1, none⟩ (.int .i64 v)) base g b gc { r with ac := v } tv := h.put 1 _ rfl rfl ⟨h.fit.ca, h.fit.pa, h.fit.ke, h.fit.ts⟩
theorem Ru1.ca (h : Ru1 w wr base g b gc r tv) (v : Nat) (hv : v < 18446744073709551616) : Ru1 w (wr.setCell ⟨gc, 2, none⟩ (.int .u64 (v : Int))) base g b gc { r with ca := v } tv := h.put 2 _ rfl rfl ⟨hv, h.fit.pa, h.fit.ke, h.fit.ts⟩
theorem Ru1.wa (h : Ru1 w wr base g b gc r tv) (v : Int) : Ru1 w (wr.setCell ⟨gc, 4, none⟩ (.int .i64 v)) base g b gc { r with wa := v } tv := h.put 4 _ rfl rfl ⟨h.fit.ca, h.fit.pa, h.fit.ke, h.fit.ts⟩
theorem Ru1.pa (h : Ru1 w wr base g b gc r tv) (v : ByteArray) (hv : v.size ≤ 10) : Ru1 w (wr.setCell ⟨gc, 5, none⟩ (.string v)) base g b gc { r with pa := v } tv := h.put 5 _ rfl rfl ⟨h.fit.ca, hv, h.fit.ke, h.fit.ts⟩
theorem Ru1.pe (h : Ru1 w wr base g b gc r tv) (v : Int) : Ru1 w (wr.setCell ⟨gc, 6, none⟩ (.int .i64 v)) base g b gc { r with pe := v } tv := h.put 6 _ rfl rfl ⟨h.fit.ca, h.fit.pa, h.fit.ke, h.fit.ts⟩
/-- A test has been appended; the slice is stored. -/
theorem Ru1.app (h : Ru1 w wr base g b gc r tv) (t : Tst) (ht : (-13 ≤ t.nu ∧ t.nu ≤ 4294967295) ∧ t.tx.size ≤ 5) {v' : Value} (hg : wr.grownBy w' tv.ownBlock) (ho : OwnT w' (gc + 1) v' (r.ts ++ [t])) :
    RulB w' gc r tv ∧ Ru1 w (w'.setCell ⟨gc, 3, none⟩ v') base g b gc { r with ts := r.ts ++ [t] } v' := by
  have h2 := h.h2
  have h3 := h.h3
  have h4 := h.h4
  have hge := h.own.ge
  have hr : ∀ k, tv.ownBlock = some k → gc < k := fun k hk => by have := hge k hk; omega
  have cb : RulB w' gc r tv := Blk.grown h.cb hg (fun e => by have := hr _ e; omega)
  refine ⟨cb, only_setCell ⟨hg.os.trans h.only.os, hg.tape.trans h.only.tape, hg.output.trans h.only.output, Nat.le_trans h.only.size hg.size, fun i hi hne => (hg.block i (Nat.lt_of_lt_of_le hi h.only.size) (fun e => by have := hr _ e.symm; omega)).trans (h.only.block i hi hne)⟩ (.inr (by show w.heap.size ≤ gc; omega)) _,
    (h.src.grown hg (fun k e => by have := hr k e; omega)).setCell (by show base ≤ gc; omega) (by show gc ≠ g; omega) _, Blk.put_other (Blk.grown h.rb hg (fun e => by have := hr _ e; omega)) _ (by show w.heap.size ≠ gc; omega), Blk.put cb 3 v', ho.setCell (by show gc < gc + 1; omega) _, ⟨h.fit.ca, h.fit.pa, h.fit.ke, fun u hu => ?_⟩, h2, h3, h4⟩
  rcases List.mem_append.1 hu with hu | hu
  · exact h.fit.ts u hu
  · rw [List.mem_singleton.1 hu]; exact ht
theorem tv_slice (h : Ru1 w wr base g b gc r tv) : ∃ A c, tv = .slice A r.ts.length c := by
  obtain ⟨A, c, e, _⟩ := h.own.tests
  exact ⟨A, c, e⟩
end
def SRulePost (w : World) (base g : Nat) (b : Int) (e : Ending) (w' : World) : Prop :=
  ∃ (r : Rul) (T : Option Addr) (n c : Nat), e = .returned (rulV r (.slice T n c)) ∧ n = r.ts.length ∧ n ≤ 3 ∧ MkR r ∧ OwnT w' (w.heap.size + 1) (.slice T n c) r.ts ∧ SrcOk w' base g b ∧ w.grownBy w' (some g)
set_option maxRecDepth 100000 in
set_option maxHeartbeats 16000000 in
theorem src_rule (w : World) (base g : Nat) (b : Int) (h : SrcOk w base g b) (hb : b ≤ 100000000000) :
    Calls Tryz.prog 30 #[.pointer (some ⟨g, 0, none⟩)] w (SRulePost w base g (b + 200)) := by
  have HB := Lib.hid hb
  have hlt0 : g < w.heap.size := src_lt h
  have hbase : base ≤ w.heap.size := by have := h.1; omega
  have HS0 := Lib.hid (h.alloc (.cells (rulC zeroR noT) 90))
  have HO0 := Lib.hid (only_alloc (World.grownBy.refl w (some g)) (.cells (rulC zeroR noT) 90))
  have HZ0 := Lib.hid (Blk.new w (rulC zeroR noT) 90)
  clear h hb
  go_enter Tryz.func30, Tryz.ntmps30
  go_wp2_with fail
  refine (src_pick _ base g (w.heap.size + 1) b 10 1 5 _ 3 (0, 0) (HS0.out.alloc _) (by have := HB.out; omega) (by have := heap_alloc_new (w.alloc (.cells (rulC zeroR noT) 90)) (.cells #[.int .i64 3, .int .i64 3, .int .i64 3, .int .i64 3, .int .i64 2, .int .i64 2, .int .i64 1, .int .i64 4, .int .i64 5, .int .i64 5] 3); simpa using this) (by omega) rfl (by omega) (by omega) rfl).mono ?_
  rintro e w1 ⟨li, rfl, l0, l1, hs, hg⟩
  have HS1 := Lib.hid hs
  have HO1 := Lib.hid ((only_alloc HO0.out _).trans hg)
  have HZ1 := Lib.hid ((HZ0.out.alloc _).grown hg (fun e => by injection e with e; omega))
  have hlt1 := HZ1.out.lt
  clear hs hg HS0 HO0 HZ0
  go_wp2_with fail
  refine (src_pick _ base g w1.heap.size (b + 1) 3 1 2 _ 3 (0, 0) (HS1.out.alloc _) (by have := HB.out; omega) (heap_alloc_new w1 _) (by omega) rfl (by omega) (by omega) rfl).mono ?_
  rintro e w2 ⟨ac, rfl, a0, a1, hs, hg⟩
  have HS2 := Lib.hid hs
  have HO2 := Lib.hid ((only_alloc HO1.out _).trans hg)
  have HZ2 := Lib.hid ((HZ1.out.alloc _).grown hg (fun e => by injection e with e; omega))
  have hlt2 := HZ2.out.lt
  clear hs hg HS1 HO1 HZ1 hlt1
  go_wp2_with fail
  refine (src_word _ base g w2.heap.size (b + 1 + 1) 4 3 _ 9 (0, 0) (HS2.out.alloc _) (by have := HB.out; omega) (heap_alloc_new w2 _) (by omega) rfl (by omega) (by omega) rfl).mono ?_
  rintro e w3 ⟨ke, rfl, hke, hs, hg⟩
  have HO3 := Lib.hid ((only_alloc HO2.out _).trans hg)
  have HZ3 := Lib.hid ((HZ2.out.alloc _).grown hg (fun e => by injection e with e; omega))
  have hlt3 := HZ3.out.lt
  have st0 : Ru1 w (w3.alloc (.cells (rulC ⟨li, ac, 0, [], 0, ⟨#[]⟩, 0, ke⟩ noT) 90)) base g (b + 3) w3.heap.size ⟨li, ac, 0, [], 0, ⟨#[]⟩, 0, ke⟩ noT :=
    ⟨only_alloc HO3.out _, (hs.alloc _).more (by omega), HZ3.out.alloc _, Blk.new w3 _ _, OwnT.nil _ _, ⟨by show 0 < _; omega, by show 0 ≤ 10; omega, by show ke.size ≤ 10; omega, fun t ht => by cases ht⟩, hlt3, hlt0, hbase⟩
  have ST0 := Lib.hid st0
  clear hs hg HS2 HO2 HZ2 HO3 HZ3 hlt2 hlt3 st0
  go_upto_region 2 with (fail)
  generalize w3.heap.size = gc at *
  generalize w3.alloc (.cells (rulC ⟨li, ac, 0, [], 0, ⟨#[]⟩, 0, ke⟩ noT) 90) = w4 at *
  generalize hr0 : (⟨li, ac, 0, [], 0, ⟨#[]⟩, 0, ke⟩ : Rul) = r0 at *
  have HT0 := Lib.hid (show r0.ts = [] by rw [← hr0])
  clear hr0 l0 l1 a0 a1 hke
  have hlt := ST0.out.lt
  go_cut [22] (fun v wx => (∃ t : Bool, v = .bool t) ∧ wx = w4)
  case first =>
    have c0 := RulB.c0 ST0.out.cb
    by_cases h2 : r0.li = 2
    · have t2 : (r0.li == 2) = true := by simpa using h2
      clear h2
      go_wp2_with fail
      go_meet
      exact ⟨⟨_, rfl⟩, rfl⟩
    · have t2 : (r0.li == 2) = false := by simpa using h2
      clear h2
      go_wp2_with fail
      go_meet
      exact ⟨⟨_, rfl⟩, rfl⟩
  case rest =>
  obtain ⟨⟨t, rfl⟩, rfl⟩ := hcut
  go_upto_if 22 with (fail)
  go_cut [] (fun wx => ∃ r, Ru1 w wx base g (b + 60) gc r noT ∧ r.ts = [])
  case first =>
    cases t
    · go_wp2_with fail
      go_meet
      exact ⟨r0, ST0.out.more (by omega), HT0.out⟩
    · go_wp2_with fail
      refine (src_mask _ base g (b + 3) ST0.out.src (by have := HB.out; omega)).mono ?_
      rintro e w5 ⟨k, rfl, hk, hs, hg⟩
      have st5 := ST0.out.step hs hg
      have c2 := RulB.c2 st5.cb
      have f2 := st5.cb.free 2
      have ST6 := Lib.hid (st5.ca k hk)
      clear hs hg st5
      go_wp2_with fail
      clear c2 f2
      refine (src_n _ base g (b + 3 + 40) 3 ST6.out.src (by have := HB.out; omega) (by omega) (by omega)).mono ?_
      rintro e w7 ⟨y, rfl, y0, y1, hs, hg⟩
      have ST7 := Lib.hid (ST6.out.step hs hg)
      have hlt7 := ST7.out.lt
      have c2 := RulB.c2 ST7.out.cb
      have f2 := ST7.out.cb.free 2
      clear hs hg ST6
      by_cases hy : 0 < y
      · have ST8 := Lib.hid (ST7.out.ca 4294967295 (by omega))
        have c2' : (w7.setCell ⟨gc, 2, none⟩ (.int .u64 4294967295)).cell? ⟨gc, 2, none⟩ = some (.int .u64 4294967295) := RulB.c2 ST8.out.cb
        go_wp2_with fail
        go_meet
        exact ⟨_, ST8.out.more (by omega), HT0.out⟩
      · by_cases hk0 : k = 0
        · have t0 : ((k : Int) == 0) = true := by simpa using hk0
          have ST8 := Lib.hid (ST7.out.ca 1 (by omega))
          clear hk0
          go_wp2_with fail
          go_meet
          exact ⟨_, ST8.out.more (by omega), HT0.out⟩
        · have t0 : ((k : Int) == 0) = false := by simpa using hk0
          clear hk0
          go_wp2_with fail
          go_meet
          exact ⟨_, ST7.out.more (by omega), HT0.out⟩
  case rest =>
  obtain ⟨r1, st1, ht1⟩ := hcut
  have ST1 := Lib.hid st1
  have HT1 := Lib.hid ht1
  clear st1 ht1 ST0 HT0 hlt
  have hlt := ST1.out.lt
  go_wp2_with fail
  refine (src_pick _ base g wc.heap.size (b + 60) 6 0 3 _ 3 (0, 0) (ST1.out.src.alloc _) (by have := HB.out; omega) (heap_alloc_new wc _) (by omega) rfl (by omega) (by omega) rfl).mono ?_
  rintro e w8 ⟨m, rfl, m0, m1, hs, hg⟩
  have st8 := (ST1.out.alloc (.cells #[.int .i64 0, .int .i64 0, .int .i64 1, .int .i64 1, .int .i64 2, .int .i64 3] 3)).step hs hg
  obtain ⟨kn, rfl⟩ := Int.eq_ofNat_of_zero_le m0
  have ST8 := Lib.hid st8
  clear hs hg st8 ST1 m0 hlt
  go_wp2_with fail
  go_loopw [4] (fun i wr => ∃ (k : Nat) (r : Rul) (tv : Value), i = .int .i64 (k : Int) ∧ r.ts.length + k ≤ 3 ∧ Ru1 w wr base g (b + 61 + 20 * r.ts.length) gc r tv) (fun i _ => (intOf i).toNat)
  case atStart => exact ⟨kn, r1, noT, rfl, by rw [HT1.out]; simp; omega, by rw [HT1.out]; exact ST8.out.more (by simp; omega)⟩
  case round =>
    obtain ⟨k, r, tv, rfl, hlen, hst⟩ := hrel
    clear ST8 m1
    by_cases hk : 0 < k
    · have hk1 : (0 : Int) < (k : Int) := by omega
      have q3 := RulB.c3 hst.cb
      have q0 := RulB.c0 hst.cb
      have hgc := hst.cb.lt
      go_wp2_with fail
      go_region_law
        (first
          | (go_simp; go_at_call 75; refine (src_test _ base g (b + 61 + 20 * r.ts.length) r.li (by exact hst.src.drew) (by have := HB.out; omega)).mono ?_; rintro e w13 ⟨fd, op, nu, tx, ot, rfl, hnu, htx, hs3, hg3⟩; have st3 := hst.drew.step hs3 hg3; have qA := RulB.c3 st3.cb; have qC := RulB.c3 (st3.alloc (.cells (testC fd op nu tx ot) 85)).cb; go_simp)
          | (refine step_append_tst (by rfl) (.tmp 42) (.tmp 47) (by rfl) (gc + 1) tv r.ts (by rfl) (by exact (st3.alloc _).own) ⟨w13.heap.size, 0, none⟩ ⟨fd, op, nu, tx, ot⟩ (by rfl) (by exact row_newT w13 (testC fd op nu tx ot) 85) (by omega) (by have := st3.cb.lt; simp; omega) ?_; intro v4 w4 own4 hg4 hat4; obtain ⟨g4, c4, hv4⟩ := Joins.ownsRow_form own4 (by simp); subst hv4; obtain ⟨cb4, st4⟩ := (st3.alloc (.cells (testC fd op nu tx ot) 85)).app ⟨fd, op, nu, tx, ot⟩ ⟨hnu, htx⟩ hg4 own4; have qB := RulB.c3 cb4; have fB := cb4.free 3))
      all_goals
        simp only [List.length_append, List.length_cons, List.length_nil, Nat.zero_add] at st4
        have ST4 := Lib.hid st4
        clear q3 q0 qA qB qC fB cb4 own4 st3 st4 hst hg3 hs3 hg4 hat4
        go_wp2_with fail
        go_roundw
        case rel => exact ⟨k - 1, { r with ts := r.ts ++ [⟨fd, op, nu, tx, ot⟩] }, _, by go_num, by show (r.ts ++ [_]).length + (k - 1) ≤ 3; rw [List.length_append, List.length_singleton]; omega, ST4.out.more (by show _ ≤ b + 61 + 20 * (((r.ts ++ [_]).length : Nat) : Int); rw [List.length_append, List.length_singleton]; omega)⟩
        case measure => simp [intOf]; omega
    · obtain rfl : k = 0 := by omega
      have ST := Lib.hid hst
      have HL3 := Lib.hid (show r.ts.length ≤ 3 by omega)
      obtain ⟨T, c, rfl⟩ := tv_slice hst
      have HSB := Lib.hid (hst.more (b' := b + 130) (by omega))
      clear hst hlen ST
      have hlt := HSB.out.lt
      have c0 := RulB.c0 HSB.out.cb
      generalize hn : r.ts.length = n at *
      have HN := Lib.hid hn
      clear hn
      go_upto_region 12 with (fail)
      go_cut [57] (fun v wx => (∃ t : Bool, v = .bool t) ∧ Ru1 w wx base g (b + 131) gc r (.slice T n c))
      case first =>
        by_cases h3 : r.li = 3
        · have t3 : (r.li == 3) = true := by simpa using h3
          clear h3
          go_wp2_with fail
          refine (src_n _ base g (b + 130) 3 HSB.out.src (by have := HB.out; omega) (by omega) (by omega)).mono ?_
          rintro e w9 ⟨y, rfl, y0, y1, hs, hg⟩
          have ST9 := Lib.hid (HSB.out.step hs hg)
          clear hs hg
          go_wp2_with fail
          go_meet
          exact ⟨⟨_, rfl⟩, ST9.out.more (by omega)⟩
        · have t3 : (r.li == 3) = false := by simpa using h3
          clear h3
          go_wp2_with fail
          go_meet
          exact ⟨⟨_, rfl⟩, HSB.out.more (by omega)⟩
      case rest =>
      obtain ⟨⟨t, rfl⟩, st⟩ := hcut
      have ST := Lib.hid st
      clear st c0 HSB
      go_upto_if 57 with (fail)
      go_cut [] (fun wx => ∃ q, Ru1 w wx base g (b + 150) gc q (.slice T n c) ∧ q.ts = r.ts)
      case first =>
        cases t
        · go_wp2_with fail
          go_meet
          exact ⟨r, ST.out.more (by omega), rfl⟩
        · go_wp2_with fail
          refine (src_range _ base g (b + 131) 1 2 ST.out.src (by have := HB.out; omega) (by omega) (by omega) (by omega)).mono ?_
          rintro e w9 ⟨wa, rfl, _, _, hs, hg⟩
          have ST9 := Lib.hid (ST.out.step hs hg)
          clear hs hg
          go_wp2_with fail
          refine (src_clean _ base g (b + 131 + 1) ST9.out.src (by have := HB.out; omega)).mono ?_
          rintro e w10 ⟨pa, rfl, hpa, hs, hg⟩
          have ST10 := Lib.hid (ST9.out.step hs hg)
          have HPA := Lib.hid (show pa.size ≤ 10 by omega)
          clear hs hg ST9 hpa
          go_wp2_with fail
          refine (src_range _ base g (b + 131 + 1 + 4) 1 15 ST10.out.src (by have := HB.out; omega) (by omega) (by omega) (by omega)).mono ?_
          rintro e w11 ⟨pe, rfl, _, _, hs, hg⟩
          have st11 := ST10.out.step hs hg
          have c4 := RulB.c4 st11.cb
          have c5 := RulB.c5 st11.cb
          have c6 := RulB.c6 st11.cb
          have f4 := st11.cb.free 4
          have f5 := st11.cb.free 5
          have f6 := st11.cb.free 6
          have ST12 := Lib.hid (((st11.wa wa).pa pa HPA.out).pe pe)
          clear hs hg ST10 st11
          go_wp2_with fail
          clear c4 c5 c6 f4 f5 f6
          refine (src_n _ base g (b + 131 + 1 + 4 + 1) 8 ST12.out.src (by have := HB.out; omega) (by omega) (by omega)).mono ?_
          rintro e w13 ⟨y, rfl, y0, y1, hs, hg⟩
          have ST13 := Lib.hid (ST12.out.step hs hg)
          clear hs hg ST12
          by_cases h7 : y = 7
          · have t7 : (y == 7) = true := by simpa using h7
            have c5 := RulB.c5 ST13.out.cb
            have f5 := ST13.out.cb.free 5
            have ST14 := Lib.hid (ST13.out.pa ⟨#[47]⟩ (by show 1 ≤ 10; omega))
            clear h7
            go_wp2_with fail
            go_meet
            exact ⟨_, ST14.out.more (by omega), rfl⟩
          · have t7 : (y == 7) = false := by simpa using h7
            clear h7
            go_wp2_with fail
            go_meet
            exact ⟨_, ST13.out.more (by omega), rfl⟩
      case rest =>
      obtain ⟨q, st, hq⟩ := hcut
      have ST2 := Lib.hid st
      have HQ := Lib.hid hq
      clear st hq ST
      go_wp2_with fail
      refine (src_n _ base g (b + 150) 24 ST2.out.src (by have := HB.out; omega) (by omega) (by omega)).mono ?_
      rintro e w13 ⟨y, rfl, y0, y1, hs, hg⟩
      have ST3 := Lib.hid (ST2.out.step hs hg)
      clear hs hg ST2
      go_upto_if 73 with (fail)
      go_cut [] (fun wx => ∃ p, Ru1 w wx base g (b + 160) gc p (.slice T n c) ∧ p.ts = r.ts)
      case first =>
        by_cases h7 : y = 23
        · have t7 : (y == 23) = true := by simpa using h7
          clear h7
          go_wp2_with fail
          refine (src_range _ base g (b + 150 + 1) (-1) 16 ST3.out.src (by have := HB.out; omega) (by omega) (by omega) (by omega)).mono ?_
          rintro e w14 ⟨pe, rfl, _, _, hs, hg⟩
          have ST4 := Lib.hid (ST3.out.step hs hg)
          clear hs hg
          go_wp2_with fail
          refine (src_range _ base g (b + 150 + 1 + 1) 0 6 ST4.out.src (by have := HB.out; omega) (by omega) (by omega) (by omega)).mono ?_
          rintro e w15 ⟨li, rfl, _, _, hs, hg⟩
          have ST5 := Lib.hid (ST4.out.step hs hg)
          clear hs hg ST4
          go_wp2_with fail
          refine (src_range _ base g (b + 150 + 1 + 1 + 1) 0 3 ST5.out.src (by have := HB.out; omega) (by omega) (by omega) (by omega)).mono ?_
          rintro e w16 ⟨ac, rfl, _, _, hs, hg⟩
          have st6 := ST5.out.step hs hg
          have c0 := RulB.c0 st6.cb
          have c1 := RulB.c1 st6.cb
          have c6 := RulB.c6 st6.cb
          have f0 := st6.cb.free 0
          have f1 := st6.cb.free 1
          have f6 := st6.cb.free 6
          have ST7 := Lib.hid (((st6.pe pe).li li).ac ac)
          clear hs hg ST5 st6
          go_wp2_with fail
          go_meet
          exact ⟨_, ST7.out.more (by omega), HQ.out⟩
        · have t7 : (y == 23) = false := by simpa using h7
          clear h7
          go_wp2_with fail
          go_meet
          exact ⟨_, ST3.out.more (by omega), HQ.out⟩
      case rest =>
      obtain ⟨p, st, hp⟩ := hcut
      have ST4 := Lib.hid st
      have HP := Lib.hid hp
      clear st hp ST3 HQ
      go_wp2_with (first | ((with_reducible refine load_blk ?_ 90 (.tmp 3) ?_ ST4.out.cb ?_ _ Tryz.underlying90 ?_ ?_ ?_); (iterate 4 rfl); exact rul_sz _ _) | ((with_reducible refine store_blk ?_ 90 (.tmp 2) (.tmp 83) ?_ ST4.out.rb (rulC p (.slice T n c)) ?_ ?_ ?_ ?_ ?_ ?_); (iterate 4 rfl); (exact rul_sz _ _); rfl; (exact rul_one _ _ _ _)))
      refine bodyPost_ret (rul_ret1 (fn := Tryz.f30) rfl _ _ w.heap.size p (.slice T n c) rfl (Blk.row ST4.out.rb _)) rfl ?_
      have h2 := ST4.out.h2
      have h3 := ST4.out.h3
      have h4 := ST4.out.h4
      exact ⟨p, T, n, c, rfl, by rw [HP.out, HN.out], HL3.out, ST4.out.fit, (ST4.out.own.low (by omega)).row (by omega) _, ((ST4.out.src.keep (setRow_other _ _ _ _ (by omega)) (fun i hi => setRow_other _ _ _ _ (by omega))).more (by omega)), ⟨ST4.out.only.os, ST4.out.only.tape, ST4.out.only.output, by rw [setRow_size]; exact ST4.out.only.size, fun i hi hne => (setRow_other _ _ _ _ (by omega)).trans (ST4.out.only.block i hi hne)⟩⟩
end Go.Proofs.YtollifnnpihfdaaGreatDoor
