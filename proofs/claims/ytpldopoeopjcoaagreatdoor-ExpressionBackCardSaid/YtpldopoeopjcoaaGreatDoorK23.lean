/- Texts of one proof, laid together. -/
import Derived.Test.YtpldopoeopjcoaaGreatDoorK01
import Derived.Test.YtpldopoeopjcoaaGreatDoorK22
import Derived.Lib.SmallJoins
import Derived.Handed
import Derived.HandedShaped
import Derived.SizedLaws
import Derived.Shelf.Vars
import Derived.Test.YtpldopoeopjcoaaGreatDoorK09
import Derived.LaidLaws
import Derived.Test.YtpldopoeopjcoaaGreatDoorRows
import Derived.Test.YtpldopoeopjcoaaGreatDoorK20
/- Listed variables: arrays of strings, arrays of rows. -/
namespace Go.Proofs.YtpldopoeopjcoaaGreatDoor
open Go.ChangeShapes Go.WideShapes Go.RowKit Go.Joins Go.Deep
theorem chunks {α : Type} {c : Nat} : ∀ {L : List (List α)} {cs : List α}, cs.length = L.length * c → (∀ i (hi : i < L.length), (cs.drop (i * c)).take c = L[i]) → cs = L.flatten
  | [], cs, h, _ => by simp at h; simp [h]
  | x :: L, cs, h, hi => by
    have h0 := hi 0 (by simp)
    simp at h0
    have hr : cs.drop c = L.flatten := chunks (c := c) (by rw [List.length_drop, h, List.length_cons, Nat.add_mul]; omega) (fun i hlt => by
      have := hi (i + 1) (by simp; omega)
      rw [List.drop_drop, show c + i * c = (i + 1) * c by rw [Nat.add_mul]; omega]
      simpa using this)
    rw [List.flatten_cons, ← hr, ← h0, List.take_append_drop]
section
variable {H : Type} {enc : TypeId × Value → H} {P : Program} {w : World} {base : Nat} {sp : Nat → Bool} {held : Bool}
theorem one_at {cs : List Value} {j : Nat} {v : Value} (h : (cs.drop j).take 1 = [v]) : cs[j]? = some v := by
  have := congrArg (·[0]?) h
  simpa [List.getElem?_take, List.getElem?_drop] using this
/-- A struct of a string and four integers, out of its datum. -/
theorem row5_cells {fuel : Nat} {t : TypeId} {f0 f1 f2 f3 f4 : Field} {k : IntKind} {cs : List Value} {l : List UInt8} {a b c d : Int} {p : List MemPlace} (hs : P.underlying t = some (.struct #[f0, f1, f2, f3, f4])) (hone : oneCellFields P #[f0, f1, f2, f3, f4] = true) (hC : P.cellsOf t = 5)
    (h0 : P.underlying f0.type = some .string) (h1 : P.underlying f1.type = some (.int k)) (h2 : P.underlying f2.type = some (.int k)) (h3 : P.underlying f3.type = some (.int k)) (h4 : P.underlying f4.type = some (.int k))
    (h : DataW.trod enc P w base sp held fuel t cs = some (.agg [.lit (.string l), .lit (.int k a), .lit (.int k b), .lit (.int k c), .lit (.int k d)], p)) : cs = [.string ⟨l.toArray⟩, .int k a, .int k b, .int k c, .int k d] := by
  obtain ⟨xs, n, _, hx, hl, hlen, hg⟩ := DataW.trod_struct hs h
  obtain ⟨o0, k0⟩ := hone_of hone 0 f0 rfl
  obtain ⟨o1, k1⟩ := hone_of hone 1 f1 rfl
  obtain ⟨o2, k2⟩ := hone_of hone 2 f2 rfl
  obtain ⟨o3, k3⟩ := hone_of hone 3 f3 rfl
  obtain ⟨o4, k4⟩ := hone_of hone 4 f4 rfl
  match xs, hlen with
  | [y0, y1, y2, y3, y4], _ =>
    simp only [Prod.mk.injEq] at hx
    have hx1 := hx.1
    simp at hx1
    obtain ⟨e0, e1, e2, e3, e4⟩ := hx1
    have g0 := hg 0 f0 rfl
    have g1 := hg 1 f1 rfl
    have g2 := hg 2 f2 rfl
    have g3 := hg 3 f3 rfl
    have g4 := hg 4 f4 rfl
    rw [o0, k0] at g0
    rw [o1, k1] at g1
    rw [o2, k2] at g2
    rw [o3, k3] at g3
    rw [o4, k4] at g4
    simp only [List.getElem?_cons_zero, List.getElem?_cons_succ] at g0 g1 g2 g3 g4
    obtain ⟨s, c0, z0, _⟩ := DataW.trod_string h0 g0
    obtain ⟨n1, c1, z1, _⟩ := DataW.trod_int h1 g1
    obtain ⟨n2, c2, z2, _⟩ := DataW.trod_int h2 g2
    obtain ⟨n3, c3, z3, _⟩ := DataW.trod_int h3 g3
    obtain ⟨n4, c4, z4, _⟩ := DataW.trod_int h4 g4
    rw [z0] at e0; rw [z1] at e1; rw [z2] at e2; rw [z3] at e3; rw [z4] at e4
    simp at e0 e1 e2 e3 e4
    have q0 := one_at c0
    have q1 := one_at c1
    have q2 := one_at c2
    have q3 := one_at c3
    have q4 := one_at c4
    subst e1 e2 e3 e4
    have es : s = ⟨l.toArray⟩ := by rw [e0]
    subst es
    match cs, hl.trans hC with
    | [x0, x1, x2, x3, x4], _ =>
      simp at q0 q1 q2 q3 q4
      rw [q0, q1, q2, q3, q4]
/-- An array whose elements are known, element by element. -/
theorem arr_cells {fuel n c : Nat} {t e : TypeId} {cs : List Value} {ds : List (DataW H)} {p : List MemPlace} {L : List (List Value)} (ht : P.underlying t = some (.array n e)) (hce : P.cellsOf e = c) (hct : P.cellsOf t = n * c) (hL : L.length = n)
    (h : DataW.trod enc P w base sp held fuel t cs = some (.agg ds, p))
    (hel : ∀ i (hi : i < L.length) m cs' d q, ds[i]? = some d → DataW.trod enc P w base sp held m e cs' = some (d, q) → cs' = L[i]) : cs = L.flatten := by
  obtain ⟨xs, m, _, hx, hl, hlen, hg⟩ := DataW.trod_array ht h
  simp only [Prod.mk.injEq] at hx
  have hx1 := hx.1
  simp at hx1
  refine chunks (c := c) (by rw [hl, hct, hL]) fun i hi => ?_
  have := hg i (by omega)
  rw [hce] at this
  have hxi : xs[i]? = some (xs[i]'(by omega)) := List.getElem?_eq_getElem (by omega)
  rw [hxi] at this
  exact hel i hi m _ _ _ (by rw [hx1, List.getElem?_map, hxi]; rfl) this
/-- A field of a struct that is read: its type, its offset and its number of cells. -/
theorem field_of {n : Nat} {fs : Array Field} {cs : List Value} {xs : List (DataW H × List MemPlace)} (hg : ∀ (i : Nat) (f : Field), fs[i]? = some f → DataW.trod enc P w base sp held n f.type ((cs.drop f.offset).take (P.cellsOf f.type)) = xs[i]?) (i : Nat) (ty : TypeId) (off k : Nat)
    (h : (fs[i]?).map (fun f => (f.type, f.offset)) = some (ty, off)) (hk : P.cellsOf ty = k) : DataW.trod enc P w base sp held n ty ((cs.drop off).take k) = xs[i]? := by
  cases hf : fs[i]? with
  | none => rw [hf] at h; cases h
  | some f =>
    rw [hf] at h
    simp at h
    have := hg i f hf
    rw [h.1, h.2, hk] at this
    exact this
/-- A listed array, out of the row's condition. -/
theorem glob_of_laid {P : Program} {W : World} {laid : List (String × DataW Unit)} {name : String} {ds : List (DataW Unit)} {g n c : Nat} {t e : TypeId} {L : List (List Value)} {cs : Array Value} (i : Nat)
    (hpl : (laid.all fun x => x.2.handleName?.isNone) = true) (h : laidMetH P laid W) (hi : laid[i]? = some (name, .agg ds))
    (hg : P.globalNamed name = some g) (hty : (P.globals[g]?).map (·.type) = some t) (ht : P.underlying t = some (.array n e)) (hce : P.cellsOf e = c) (hct : P.cellsOf t = n * c) (hL : L.length = n) (hcs : cs = L.flatten.toArray)
    (hel : ∀ (w : World) i (hi : i < L.length) m cs' d q, ds[i]? = some d → DataW.trod (fun _ => ()) P w 0 (fun _ => true) false m e cs' = some (d, q) → cs' = L[i]) : Glob W g cs := by
  rw [MakeChecks.laidMetH_plain _ _ _ hpl] at h
  obtain ⟨ps, hv, _⟩ := h
  obtain ⟨g', t', cs', fuel, p, hg', ht', hvar, hd⟩ := vars_at hv i name _ hi
  obtain rfl := Option.some.inj (hg.symm.trans hg')
  obtain rfl := Option.some.inj (hty.symm.trans ht')
  have hc := arr_cells ht hce hct hL hd (hel W)
  unfold World.var? at hvar
  rw [hg] at hvar
  simp only [Option.bind_some] at hvar
  split at hvar
  · rename_i cs2 tt fr he
    injection hvar with hvar
    subst hvar
    refine ⟨tt, fr, by rw [he, hcs, ← hc]⟩
  · cases hvar
end
end Go.Proofs.YtpldopoeopjcoaaGreatDoor
/- The wrap of a law's row that keeps the world's shape beside what the listed variables hold. -/
namespace Go.Proofs.YtpldopoeopjcoaaGreatDoor
open Go
variable {H : Type} {enc : TypeId × Value → H}
theorem handed_and_shaped {a : Assume} {C : Checked} {os : Os} {f : FuncId} {fn : Func} {s : ChangeSpec} {conds : List PathCond} {apart fresh handsOn again : Bool} {X : World → Array Value → Prop}
    (hX : ∀ (w w' : World) (args : Array Value), w.heap = w'.heap → X w args → X w' args)
    (own : ownKnob C.prog.godebug = none) (started : os.Started) (noInit : C.prog.inits.idxOf? f = none) (hfn : C.prog.funcs[f]? = some fn)
    (witness : ∃ (w : World) (tape : Tape) (i : Input), w.os = os ∧ (w.forCall tape i).Shaped C.prog ∧ i.vars = [] ∧ Input.okWide C.prog (w.forCall tape i) .any w.heap.size f i ∧
      ((s.pre enc C.prog fn conds apart (w.forCall tape i).memory i.args ∧ X (w.forCall tape i).memory i.args) ∧ sizedMet enc C.prog fn (OpenSpec.ofChange s) apart (w.forCall tape i).memory i.args) ∧ a.holds C.prog (lone (Frame.enter C.prog f i.args .normal) [] (w.forCall tape i)))
    (contract : ∀ (W : World) (base : Nat) (args : Array Value) (ds gs : List (DataW H)) (before : List MemPlace),
      (∀ (j : Nat) t v, fn.params[j]? = some t → args[j]? = some v → Value.okWide C.prog W .any base t v) →
      DataW.Whole enc C.prog fn.params.toList s.vars apart W args.toList ds gs before → X W args → W.ShapedOpen C.prog →
      Calls C.prog f args W fun e W' => ∃ v, e = .returned v ∧ s.post enc C.prog fn apart fresh handsOn again W args v W') :
    ReturnsInHanded a C os f .any (fun w args => (s.pre enc C.prog fn conds apart w args ∧ X w args) ∧ sizedMet enc C.prog fn (OpenSpec.ofChange s) apart w args) (s.post enc C.prog fn apart fresh handsOn again) := by
  refine returnsInHanded_of_calls own started noInit witness ?_
  intro w tape i _ hsh _ hok hpre hholds
  obtain ⟨_, _, _, fn', hfn', _, _, _, _, hval⟩ := hok
  have e : fn' = fn := Option.some.inj (hfn'.symm.trans hfn)
  subst e
  obtain ⟨⟨⟨ds, gs, before, hw, hc⟩, hx⟩, hz⟩ := hpre
  have hw' := DataW.Whole.of_heap (w' := w.forCall tape i) (by rfl) hw
  refine (contract (w.forCall tape i) w.heap.size i.args ds gs before hval hw' (hX _ _ _ (by rfl) hx) hsh).mono fun e W' ⟨v, he, hp⟩ => ?_
  subst he
  exact ChangeSpec.post_blind hp
end Go.Proofs.YtpldopoeopjcoaaGreatDoor
/- The listed error variables; the variable MaxLen, out of the world's shape. -/
namespace Go.Proofs.YtpldopoeopjcoaaGreatDoor
open Go.RowKit
theorem errv_of_laid {W : World} {laid : List (String × DataW Unit)} {name nm : String} {d : DataW Unit} {g : Nat} {ms : Array (String × TypeId)} (i : Nat) (hpl : (laid.all fun x => x.2.handleName?.isNone) = true) (h : laidMetH Tryz.prog laid W) (hi : laid[i]? = some (name, .iface nm d))
    (hg : Tryz.prog.globalNamed name = some g) (hty : (Tryz.prog.globals[g]?).map (·.type) = some 94) (hu : Tryz.prog.underlying 94 = some (.interface ms)) : ErrV W g := by
  rw [MakeChecks.laidMetH_plain _ _ _ hpl] at h
  obtain ⟨ps, hv, _⟩ := h
  obtain ⟨g', t', cs, fuel, p, hg', ht', hvar, hd⟩ := vars_at hv i name _ hi
  obtain rfl := Option.some.inj (hg.symm.trans hg')
  obtain rfl := Option.some.inj (hty.symm.trans ht')
  obtain ⟨_, u, v, hc, _, _⟩ := iface_of_trod hu hd
  unfold World.var? at hvar
  rw [hg] at hvar
  simp only [Option.bind_some] at hvar
  split at hvar
  · rename_i cs2 tt fr he
    injection hvar with hvar
    subst hvar
    refine ⟨.iface u v, ?_, .inr ⟨u, v, rfl⟩⟩
    rw [cell_of_row W _ 0 cs2 tt fr he]
    have : cs2 = #[.iface u v] := by apply Array.toList_inj.1; rw [hc]
    rw [this]; rfl
  · cases hvar
theorem mx_of_shape {W : World} (h : W.ShapedOpen Tryz.prog) : Mx W :=
  cell_of_shapedOpen_int (P := Tryz.prog) (g := 3) (t := 3) (zero := #[.int .i64 0]) h (of_decide_eq_true (by kernel_rfl)) (by kernel_rfl) rfl (by kernel_rfl) (by kernel_rfl) Tryz.underlying3
end Go.Proofs.YtpldopoeopjcoaaGreatDoor
/- The listed table of record types; a slice of bytes that comes in. -/
namespace Go.Proofs.YtpldopoeopjcoaaGreatDoor
open Go.ChangeShapes Go.WideShapes Go.RowKit Go.Joins Go.Deep
section
variable {H : Type} {enc : TypeId × Value → H} {P : Program} {w : World} {base : Nat} {sp : Nat → Bool} {held : Bool}
/-- A struct of a string, an integer and a bool, out of its datum. -/
theorem row3_cells {fuel : Nat} {t : TypeId} {f0 f1 f2 : Field} {k : IntKind} {cs : List Value} {l : List UInt8} {a : Int} {b : Bool} {p : List MemPlace} (hs : P.underlying t = some (.struct #[f0, f1, f2])) (hone : oneCellFields P #[f0, f1, f2] = true) (hC : P.cellsOf t = 3)
    (h0 : P.underlying f0.type = some .string) (h1 : P.underlying f1.type = some (.int k)) (h2 : P.underlying f2.type = some .bool)
    (h : DataW.trod enc P w base sp held fuel t cs = some (.agg [.lit (.string l), .lit (.int k a), .lit (.bool b)], p)) : cs = [.string ⟨l.toArray⟩, .int k a, .bool b] := by
  obtain ⟨xs, n, _, hx, hl, hlen, hg⟩ := DataW.trod_struct hs h
  obtain ⟨o0, k0⟩ := hone_of hone 0 f0 rfl
  obtain ⟨o1, k1⟩ := hone_of hone 1 f1 rfl
  obtain ⟨o2, k2⟩ := hone_of hone 2 f2 rfl
  match xs, hlen with
  | [y0, y1, y2], _ =>
    simp only [Prod.mk.injEq] at hx
    have hx1 := hx.1
    simp at hx1
    obtain ⟨e0, e1, e2⟩ := hx1
    have g0 := hg 0 f0 rfl
    have g1 := hg 1 f1 rfl
    have g2 := hg 2 f2 rfl
    rw [o0, k0] at g0
    rw [o1, k1] at g1
    rw [o2, k2] at g2
    simp only [List.getElem?_cons_zero, List.getElem?_cons_succ] at g0 g1 g2
    obtain ⟨s, c0, z0, _⟩ := DataW.trod_string h0 g0
    obtain ⟨n1, c1, z1, _⟩ := DataW.trod_int h1 g1
    obtain ⟨b2, c2, z2⟩ := DataW.trod_bool h2 g2
    rw [z0] at e0; rw [z1] at e1; rw [z2] at e2
    simp at e0 e1 e2
    have q0 := one_at c0
    have q1 := one_at c1
    have q2 := one_at c2
    subst e1 e2
    have es : s = ⟨l.toArray⟩ := by rw [e0]
    subst es
    match cs, hl.trans hC with
    | [x0, x1, x2], _ =>
      simp at q0 q1 q2
      rw [q0, q1, q2]
/-- An argument that is a slice of bytes: what a case asks of it. -/
theorem u8s_arg {W : World} {t e : TypeId} {v : Value} {d : DataW H} {p : List MemPlace} (ht : P.underlying t = some (.slice e)) (he : P.underlying e = some (.int .u8)) (hc : P.cellsOf e = 1)
    (hv : Value.okWide P W .any base t v) (h : DataW.Trod enc P W 0 (fun _ => true) true t v d p) (hlt : ∀ x ∈ p, x.block < W.heap.size) :
    ∃ (A : Option Addr) (n c : Nat), v = .slice A n c ∧ n ≤ c ∧ (c : Int) ≤ 9223372036854775807 ∧ ∀ k, k < n → ∃ (ad : Addr) (z : Int), A = some ad ∧ ad.block < W.heap.size ∧ W.cell? (ad.add k) = some (.int .u8 z) ∧ 0 ≤ z ∧ z ≤ 255 := by
  obtain ⟨a0, len, cap, rfl⟩ := okWide_slice ht hv
  obtain ⟨fuel, hf⟩ := h
  rcases open_ints ht he hc hf with ⟨hcs, hx⟩ | ⟨a, len', cap', zs, hcs, _, hl, hm, hz, hx, hcell, hwz⟩
  · simp [Value.cells] at hcs
    obtain ⟨rfl, rfl, rfl⟩ := hcs
    exact ⟨none, 0, 0, rfl, by omega, by omega, fun k hk => by omega⟩
  · simp [Value.cells] at hcs
    obtain ⟨rfl, rfl, rfl⟩ := hcs
    simp only [if_true] at hz
    unfold maxLen at hm
    refine ⟨some a, len, cap, rfl, hl, by omega, fun k hk => ?_⟩
    have hkz : k < zs.length := by omega
    have hw := bounds_u8 (hwz (zs.getD k 0) (by rw [List.getD_eq_getElem?_getD, List.getElem?_eq_getElem hkz]; exact List.getElem_mem hkz))
    refine ⟨a, zs.getD k 0, rfl, ?_, hcell k hkz, hw.1, by have := hw.2; omega⟩
    injection hx with _ hp
    have hmem : MemPlace.cell a.block (a.off + 0) ∈ p := by
      rw [hp]; unfold MemPlace.row; simp; omega
    exact hlt _ hmem
end
abbrev tyR : List (List Value) := [[.string ⟨#[85, 83, 69, 82]⟩, .int .i64 1005, .bool true], [.string ⟨#[68, 65, 69, 77, 79, 78]⟩, .int .i64 1200, .bool true], [.string ⟨#[83, 89, 83, 67, 65, 76, 76]⟩, .int .i64 1300, .bool false], [.string ⟨#[80, 65, 84, 72]⟩, .int .i64 1302, .bool false], [.string ⟨#[67, 79, 78, 70, 73, 71]⟩, .int .i64 1305, .bool true], [.string ⟨#[83, 79, 67, 75, 65, 68, 68, 82]⟩, .int .i64 1306, .bool false], [.string ⟨#[67, 87, 68]⟩, .int .i64 1307, .bool false], [.string ⟨#[69, 88, 69, 67, 86, 69]⟩, .int .i64 1309, .bool false], [.string ⟨#[69, 79, 69]⟩, .int .i64 1320, .bool false], [.string ⟨#[76, 79, 83, 83]⟩, .int .i64 1331, .bool true]]
theorem ty_row (w : World) (i : Nat) (hi : i < tyR.length) (m : Nat) (cs' : List Value) (d : DataW Unit) (q : List MemPlace) (ds : List (DataW Unit)) (hds : DataW.agg ds = Rows.laid_kaudit_record_types) (hd : ds[i]? = some d) (ht : DataW.trod (fun _ => ()) Tryz.prog w 0 (fun _ => true) false m 110 cs' = some (d, q)) : cs' = tyR[i] := by
  have H : ∀ k : Fin 10, ds[k.val]? = some d → cs' = tyR[k.val]'(by have : tyR.length = 10 := rfl; omega) := by
    unfold Rows.laid_kaudit_record_types at hds
    injection hds with hds
    subst hds
    intro k hd
    match k with
    | ⟨0, _⟩ => exact row3_cells Tryz.underlying110 (by kernel_rfl) (by kernel_rfl) Tryz.underlying9 Tryz.underlying3 Tryz.underlying4 (by cases hd; exact ht)
    | ⟨1, _⟩ => exact row3_cells Tryz.underlying110 (by kernel_rfl) (by kernel_rfl) Tryz.underlying9 Tryz.underlying3 Tryz.underlying4 (by cases hd; exact ht)
    | ⟨2, _⟩ => exact row3_cells Tryz.underlying110 (by kernel_rfl) (by kernel_rfl) Tryz.underlying9 Tryz.underlying3 Tryz.underlying4 (by cases hd; exact ht)
    | ⟨3, _⟩ => exact row3_cells Tryz.underlying110 (by kernel_rfl) (by kernel_rfl) Tryz.underlying9 Tryz.underlying3 Tryz.underlying4 (by cases hd; exact ht)
    | ⟨4, _⟩ => exact row3_cells Tryz.underlying110 (by kernel_rfl) (by kernel_rfl) Tryz.underlying9 Tryz.underlying3 Tryz.underlying4 (by cases hd; exact ht)
    | ⟨5, _⟩ => exact row3_cells Tryz.underlying110 (by kernel_rfl) (by kernel_rfl) Tryz.underlying9 Tryz.underlying3 Tryz.underlying4 (by cases hd; exact ht)
    | ⟨6, _⟩ => exact row3_cells Tryz.underlying110 (by kernel_rfl) (by kernel_rfl) Tryz.underlying9 Tryz.underlying3 Tryz.underlying4 (by cases hd; exact ht)
    | ⟨7, _⟩ => exact row3_cells Tryz.underlying110 (by kernel_rfl) (by kernel_rfl) Tryz.underlying9 Tryz.underlying3 Tryz.underlying4 (by cases hd; exact ht)
    | ⟨8, _⟩ => exact row3_cells Tryz.underlying110 (by kernel_rfl) (by kernel_rfl) Tryz.underlying9 Tryz.underlying3 Tryz.underlying4 (by cases hd; exact ht)
    | ⟨9, _⟩ => exact row3_cells Tryz.underlying110 (by kernel_rfl) (by kernel_rfl) Tryz.underlying9 Tryz.underlying3 Tryz.underlying4 (by cases hd; exact ht)
    | ⟨k + 10, h⟩ => exact absurd h (by omega)
  exact H ⟨i, hi⟩ hd
theorem rtys_of_laid {W : World} {laid : List (String × DataW Unit)} (i : Nat) (hpl : (laid.all fun x => x.2.handleName?.isNone) = true) (h : laidMetH Tryz.prog laid W) (hi : laid[i]? = some ("kaudit/record.types", Rows.laid_kaudit_record_types)) : RTys W :=
  glob_of_laid (t := 111) (e := 110) (c := 3) (n := 10) (L := tyR) i hpl h hi rfl (by kernel_rfl) Tryz.underlying111 (by kernel_rfl) (by kernel_rfl) rfl rfl (fun w i hi m cs' d q hd ht => ty_row w i hi m cs' d q _ rfl hd ht)
end Go.Proofs.YtpldopoeopjcoaaGreatDoor
/- The walk of ExpressionBack, with what the row lists. -/
