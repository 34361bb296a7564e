/- The last step of a law's row: the call returned true and left what was there. -/
import Derived.WalkKit
import Derived.ProofKit
import Derived.OpenShut
import Derived.Carry
import Derived.LaidSub
import Derived.Lib.LaidTab
namespace Go.Proofs.YthidojkckhjciaaDoor
open Go.ChangeShapes Go.WideShapes Go.ChangeAt Go.RowKit
section
variable {H : Type} {enc : TypeId × Value → H} {P : Program}
/-- Arguments read as they did, where nothing that was there has changed. -/
theorem trodAll_stays (hl : laidOutB P = true) {W W' : World} (hb : Below W.heap.size W W') : ∀ {ts : List TypeId} {vs : List Value} {ds : List (DataW H)} {ps : List MemPlace},
    (∀ t ∈ ts, P.readableRec t = true ∧ t < P.types.size) → DataW.TrodAll enc P W 0 (fun _ => true) true ts vs ds ps → (∀ x ∈ ps, x.block < W.heap.size) →
    DataW.TrodAll enc P W' 0 (fun b => decide (b < W.heap.size)) true ts vs ds ps
  | [], vs, ds, ps, _, h, _ => by
    obtain ⟨rfl, rfl, rfl⟩ := trodAll_nil h
    exact trodAll_mk0
  | t :: ts, vs, ds, ps, ht, h, hlt => by
    obtain ⟨v, vs1, d, ds1, p, q, rfl, rfl, rfl, h1, h2⟩ := trodAll_cons h
    have hh := ht t List.mem_cons_self
    exact trodAll_cons_mk (Below.trod hl hh.1 hh.2 h1 hb fun x hx => hlt x (List.mem_append_left _ hx))
      (trodAll_stays hl hb (fun u hu => ht u (List.mem_cons_of_mem _ hu)) h2 fun x hx => hlt x (List.mem_append_right _ hx))
theorem law_mono {f : FuncId} {args : Array Value} {W : World} {Q : Ending → World → Prop} (h : Calls P f args W fun e w' => e = .returned (.bool true) ∧ Below W.heap.size W w')
    (k : ∀ W', Below W.heap.size W W' → Q (.returned (.bool true)) W') : Calls P f args W Q := h.mono fun _ w' hh => hh.1 ▸ k w' hh.2
theorem post_law {f : Func} {s : ChangeSpec} {W W' : World} {args : Array Value} {ds gs : List (DataW H)} {before : List MemPlace} {b : TypeId}
    (hl : laidOutB P = true) (hp : (f.params.toList.all fun t => P.readableRec t && decide (t < P.types.size)) = true) (hr : f.resultTypes = #[b]) (hbool : P.underlying b = some .bool)
    (hW : DataW.Whole enc P f.params.toList s.vars false W args.toList ds gs before) (hv : s.vars = []) (hfn : s.fn H (ds ++ gs) = { results := [.lit (.bool true)], args := ds }) (hb : Below W.heap.size W W') :
    s.post enc P f false true false false W args (.bool true) W' := by
  have hlt : ∀ p ∈ before, p.block < W.heap.size := fun p hp => hW.lt p hp
  obtain ⟨p, q, hA, hV, rfl, hfz, hnd⟩ := id hW
  have hV' := hV
  rw [hv] at hV'
  obtain ⟨rfl, rfl⟩ := trodVars_none hV'
  refine ⟨ds, [], _, [], p, [], hW, ?_, ?_, ?_, hb.frame _, fun h => by cases h⟩
  · rw [hfn, hr]
    exact trodAll_mk1 (shut_bool hbool _)
  · rw [hfn]
    exact trodAll_stays hl hb (fun t ht => by simpa using List.all_eq_true.1 hp t ht) hA fun x hx => hlt x (List.mem_append_left _ hx)
  · rw [hfn, hv]; rfl
end
end Go.Proofs.YthidojkckhjciaaDoor
