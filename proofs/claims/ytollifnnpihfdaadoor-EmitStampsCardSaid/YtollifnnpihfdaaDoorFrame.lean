/- The last step of a law's row: the call returned true and left what was there. -/
import Derived.WalkKit
import Derived.ProofKit
import Derived.OpenShut
import Derived.Carry
import Derived.LaidSub
import Derived.Lib.LaidTab
import Derived.MakeChecks
import Derived.Stop.Joined
namespace Go.Proofs.YtollifnnpihfdaaDoor
open Go.ChangeShapes Go.WideShapes Go.ChangeAt Go.RowKit
theorem vars_at {P : Program} {w : World} : ∀ {l : List (String × DataW Unit)} {ps : List MemPlace}, DataW.LaidVars P w l ps → ∀ (i : Nat) (n : String) (d : DataW Unit), l[i]? = some (n, d) →
    ∃ g t cs fuel p, P.globalNamed n = some g ∧ (P.globals[g]?).map (·.type) = some t ∧ w.var? P n = some cs ∧ DataW.trod (fun _ => ()) P w 0 (fun _ => true) false fuel t cs.toList = some (d, p)
  | [], _, _, i, n, d, hm => by simp at hm
  | (n', d') :: r, ps, h, i, n, d, hm => by
    obtain ⟨g, t, cs, fuel, p, q, h1, h2, h3, h4, h5, _⟩ := h
    match i, hm with
    | 0, hm =>
      simp at hm
      obtain ⟨rfl, rfl⟩ := hm
      exact ⟨g, t, cs, fuel, p, h1, h2, h3, h4⟩
    | i + 1, hm => exact vars_at h5 i n d (by simpa using hm)
/-- A listed table of integers, out of the row's condition. -/
theorem tab_of_laid {P : Program} {W : World} {laid : List (String × DataW Unit)} {name : String} {k : IntKind} {zs : List Int} {g : Nat} {t e : TypeId} {n : Nat} (i : Nat)
    (hpl : (laid.all fun x => x.2.handleName?.isNone) = true) (h : laidMetH P laid W) (hi : laid[i]? = some (name, Lib.tabData k zs))
    (hg : P.globalNamed name = some g) (hty : (P.globals[g]?).map (·.type) = some t) (ht : P.underlying t = some (.array n e)) (he : P.underlying e = some (.int k)) (hce : P.cellsOf e = 1) (hct : P.cellsOf t = n) : Lib.TabIs P W name k zs := by
  rw [MakeChecks.laidMetH_plain _ _ _ hpl] at h
  obtain ⟨ps, hv, _⟩ := h
  obtain ⟨g', t', cs, fuel, p, hg', ht', hvar, hd⟩ := vars_at hv i name _ hi
  obtain rfl := Option.some.inj (hg.symm.trans hg')
  obtain rfl := Option.some.inj (hty.symm.trans ht')
  unfold Lib.TabIs
  rw [hvar, ← Lib.cells_of_tab ht he hce hct hd]
section
variable {H : Type} {enc : TypeId × Value → H} {P : Program}
/-- Arguments read as they did, where nothing that was there has changed. -/
theorem trodAll_stays (hl : laidOutB P = true) {W W' : World} (hb : Below W.heap.size W W') : ∀ {ts : List TypeId} {vs : List Value} {ds : List (DataW H)} {ps : List MemPlace},
    (∀ t ∈ ts, P.readableRec t = true ∧ t < P.types.size) → DataW.TrodAll enc P W 0 (fun _ => true) true ts vs ds ps → (∀ x ∈ ps, x.block < W.heap.size) →
    DataW.TrodAll enc P W' 0 (fun b => decide (b < W.heap.size)) true ts vs ds ps
  | [], vs, ds, ps, _, h, _ => by
    obtain ⟨rfl, rfl, rfl⟩ := trodAll_nil h
    exact trodAll_mk0
  | t :: ts, vs, ds, ps, ht, h, hlt => by
    obtain ⟨v, vs1, d, ds1, p, q, rfl, rfl, rfl, h1, h2⟩ := trodAll_cons h
    have hh := ht t List.mem_cons_self
    exact trodAll_cons_mk (Below.trod hl hh.1 hh.2 h1 hb fun x hx => hlt x (List.mem_append_left _ hx))
      (trodAll_stays hl hb (fun u hu => ht u (List.mem_cons_of_mem _ hu)) h2 fun x hx => hlt x (List.mem_append_right _ hx))
theorem law_mono {f : FuncId} {args : Array Value} {W : World} {Q : Ending → World → Prop} (h : Calls P f args W fun e w' => e = .returned (.bool true) ∧ Below W.heap.size W w')
    (k : ∀ W', Below W.heap.size W W' → Q (.returned (.bool true)) W') : Calls P f args W Q := h.mono fun _ w' hh => hh.1 ▸ k w' hh.2
theorem post_law {f : Func} {s : ChangeSpec} {W W' : World} {args : Array Value} {ds gs : List (DataW H)} {before : List MemPlace} {b : TypeId}
    (hl : laidOutB P = true) (hp : (f.params.toList.all fun t => P.readableRec t && decide (t < P.types.size)) = true) (hr : f.resultTypes = #[b]) (hbool : P.underlying b = some .bool)
    (hW : DataW.Whole enc P f.params.toList s.vars false W args.toList ds gs before) (hv : s.vars = []) (hfn : s.fn H (ds ++ gs) = { results := [.lit (.bool true)], args := ds }) (hb : Below W.heap.size W W') :
    s.post enc P f false true false false W args (.bool true) W' := by
  have hlt : ∀ p ∈ before, p.block < W.heap.size := fun p hp => hW.lt p hp
  obtain ⟨p, q, hA, hV, rfl, hfz, hnd⟩ := id hW
  have hV' := hV
  rw [hv] at hV'
  obtain ⟨rfl, rfl⟩ := trodVars_none hV'
  refine ⟨ds, [], _, [], p, [], hW, ?_, ?_, ?_, hb.frame _, fun h => by cases h⟩
  · rw [hfn, hr]
    exact trodAll_mk1 (shut_bool hbool _)
  · rw [hfn]
    exact trodAll_stays hl hb (fun t ht => by simpa using List.all_eq_true.1 hp t ht) hA fun x hx => hlt x (List.mem_append_left _ hx)
  · rw [hfn, hv]; rfl
/-- An argument that is a slice of numbers: what a source of numbers asks of it. -/
theorem ints_arg {W : World} {base : Nat} {t e : TypeId} {v : Value} {d : DataW H} {p : List MemPlace} (ht : P.underlying t = some (.slice e)) (he : P.underlying e = some (.int .i64)) (hc : P.cellsOf e = 1)
    (hv : Value.okWide P W .any base t v) (h : DataW.Trod enc P W 0 (fun _ => true) true t v d p) (hlt : ∀ x ∈ p, x.block < W.heap.size) :
    ∃ (A : Option Addr) (n c : Nat), v = .slice A n c ∧ (n : Int) ≤ 9223372036854775807 ∧ ∀ k, k < n → ∃ (ad : Addr) (z : Int), A = some ad ∧ ad.block < W.heap.size ∧ W.cell? (ad.add k) = some (.int .i64 z) ∧ -9223372036854775808 ≤ z ∧ z ≤ 9223372036854775807 := by
  obtain ⟨a0, len, cap, rfl⟩ := okWide_slice ht hv
  obtain ⟨fuel, hf⟩ := h
  rcases open_ints ht he hc hf with ⟨hcs, hx⟩ | ⟨a, len', cap', zs, hcs, _, hl, hm, hz, hx, hcell, hwz⟩
  · simp [Value.cells] at hcs
    obtain ⟨rfl, rfl, rfl⟩ := hcs
    exact ⟨none, 0, 0, rfl, by omega, fun k hk => by omega⟩
  · simp [Value.cells] at hcs
    obtain ⟨rfl, rfl, rfl⟩ := hcs
    simp only [if_true] at hz
    unfold maxLen at hm
    refine ⟨some a, len, cap, rfl, by omega, fun k hk => ?_⟩
    have hkz : k < zs.length := by omega
    have hw := bounds_i64 (hwz (zs.getD k 0) (by rw [List.getD_eq_getElem?_getD, List.getElem?_eq_getElem hkz]; exact List.getElem_mem hkz))
    refine ⟨a, zs.getD k 0, rfl, ?_, hcell k hkz, hw.1, hw.2⟩
    injection hx with _ hp
    have hmem : MemPlace.cell a.block (a.off + 0) ∈ p := by
      rw [hp]; unfold MemPlace.row; simp; omega
    exact hlt _ hmem
end
end Go.Proofs.YtollifnnpihfdaaDoor
