/- Texts of one proof, laid together. -/
import Derived.WalkKit
import Derived.ProofKit
import Derived.OpenShut
import Derived.Carry
import Derived.LaidSub
import Derived.Lib.LaidTab
import Derived.MakeChecks
import Derived.Stop.Joined
import Derived.Handed
import Derived.HandedShaped
import Derived.SizedLaws
import Derived.Shelf.Vars
import Derived.Laws.Strings
import Derived.OwnWalk
import Derived.Below
import Derived.Laws.AppendOwn
import Derived.Laws.IdiomStrings
import Derived.Lib.BufferRead
import Derived.Lib.SmallJoins
import Derived.Laws.Rows
import Derived.Test.YtbbihfafkpniiaaGreatDoorProg
import Derived.Lib.ItoaNum
import Derived.Lib.Hide
import Derived.WalkSpells
import Derived.LoopTactic
import Derived.Outline
import Derived.WalkLawsBesides
import Derived.Test.YtbbihfafkpniiaaGreatDoorC01
import Derived.Lib.AppendIntMem
/- The last step of a law's row: the call returned true and left what was there. -/
namespace Go.Proofs.YtbbihfafkpniiaaGreatDoor
open Go.ChangeShapes Go.WideShapes Go.ChangeAt Go.RowKit
theorem vars_at {P : Program} {w : World} : ∀ {l : List (String × DataW Unit)} {ps : List MemPlace}, DataW.LaidVars P w l ps → ∀ (i : Nat) (n : String) (d : DataW Unit), l[i]? = some (n, d) →
    ∃ g t cs fuel p, P.globalNamed n = some g ∧ (P.globals[g]?).map (·.type) = some t ∧ w.var? P n = some cs ∧ DataW.trod (fun _ => ()) P w 0 (fun _ => true) false fuel t cs.toList = some (d, p)
  | [], _, _, i, n, d, hm => by simp at hm
  | (n', d') :: r, ps, h, i, n, d, hm => by
    obtain ⟨g, t, cs, fuel, p, q, h1, h2, h3, h4, h5, _⟩ := h
    match i, hm with
    | 0, hm =>
      simp at hm
      obtain ⟨rfl, rfl⟩ := hm
      exact ⟨g, t, cs, fuel, p, h1, h2, h3, h4⟩
    | i + 1, hm => exact vars_at h5 i n d (by simpa using hm)
/-- A listed table of integers, out of the row's condition. -/
theorem tab_of_laid {P : Program} {W : World} {laid : List (String × DataW Unit)} {name : String} {k : IntKind} {zs : List Int} {g : Nat} {t e : TypeId} {n : Nat} (i : Nat)
    (hpl : (laid.all fun x => x.2.handleName?.isNone) = true) (h : laidMetH P laid W) (hi : laid[i]? = some (name, Lib.tabData k zs))
    (hg : P.globalNamed name = some g) (hty : (P.globals[g]?).map (·.type) = some t) (ht : P.underlying t = some (.array n e)) (he : P.underlying e = some (.int k)) (hce : P.cellsOf e = 1) (hct : P.cellsOf t = n) : Lib.TabIs P W name k zs := by
  rw [MakeChecks.laidMetH_plain _ _ _ hpl] at h
  obtain ⟨ps, hv, _⟩ := h
  obtain ⟨g', t', cs, fuel, p, hg', ht', hvar, hd⟩ := vars_at hv i name _ hi
  obtain rfl := Option.some.inj (hg.symm.trans hg')
  obtain rfl := Option.some.inj (hty.symm.trans ht')
  unfold Lib.TabIs
  rw [hvar, ← Lib.cells_of_tab ht he hce hct hd]
section
variable {H : Type} {enc : TypeId × Value → H} {P : Program}
/-- Arguments read as they did, where nothing that was there has changed. -/
theorem trodAll_stays (hl : laidOutB P = true) {W W' : World} (hb : Below W.heap.size W W') : ∀ {ts : List TypeId} {vs : List Value} {ds : List (DataW H)} {ps : List MemPlace},
    (∀ t ∈ ts, P.readableRec t = true ∧ t < P.types.size) → DataW.TrodAll enc P W 0 (fun _ => true) true ts vs ds ps → (∀ x ∈ ps, x.block < W.heap.size) →
    DataW.TrodAll enc P W' 0 (fun b => decide (b < W.heap.size)) true ts vs ds ps
  | [], vs, ds, ps, _, h, _ => by
    obtain ⟨rfl, rfl, rfl⟩ := trodAll_nil h
    exact trodAll_mk0
  | t :: ts, vs, ds, ps, ht, h, hlt => by
    obtain ⟨v, vs1, d, ds1, p, q, rfl, rfl, rfl, h1, h2⟩ := trodAll_cons h
    have hh := ht t List.mem_cons_self
    exact trodAll_cons_mk (Below.trod hl hh.1 hh.2 h1 hb fun x hx => hlt x (List.mem_append_left _ hx))
      (trodAll_stays hl hb (fun u hu => ht u (List.mem_cons_of_mem _ hu)) h2 fun x hx => hlt x (List.mem_append_right _ hx))
theorem law_mono {f : FuncId} {args : Array Value} {W : World} {Q : Ending → World → Prop} (h : Calls P f args W fun e w' => e = .returned (.bool true) ∧ Below W.heap.size W w')
    (k : ∀ W', Below W.heap.size W W' → Q (.returned (.bool true)) W') : Calls P f args W Q := h.mono fun _ w' hh => hh.1 ▸ k w' hh.2
theorem post_law {f : Func} {s : ChangeSpec} {W W' : World} {args : Array Value} {ds gs : List (DataW H)} {before : List MemPlace} {b : TypeId}
    (hl : laidOutB P = true) (hp : (f.params.toList.all fun t => P.readableRec t && decide (t < P.types.size)) = true) (hr : f.resultTypes = #[b]) (hbool : P.underlying b = some .bool)
    (hW : DataW.Whole enc P f.params.toList s.vars false W args.toList ds gs before) (hv : s.vars = []) (hfn : s.fn H (ds ++ gs) = { results := [.lit (.bool true)], args := ds }) (hb : Below W.heap.size W W') :
    s.post enc P f false true false false W args (.bool true) W' := by
  have hlt : ∀ p ∈ before, p.block < W.heap.size := fun p hp => hW.lt p hp
  obtain ⟨p, q, hA, hV, rfl, hfz, hnd⟩ := id hW
  have hV' := hV
  rw [hv] at hV'
  obtain ⟨rfl, rfl⟩ := trodVars_none hV'
  refine ⟨ds, [], _, [], p, [], hW, ?_, ?_, ?_, hb.frame _, fun h => by cases h⟩
  · rw [hfn, hr]
    exact trodAll_mk1 (shut_bool hbool _)
  · rw [hfn]
    exact trodAll_stays hl hb (fun t ht => by simpa using List.all_eq_true.1 hp t ht) hA fun x hx => hlt x (List.mem_append_left _ hx)
  · rw [hfn, hv]; rfl
/-- An argument that is a slice of numbers: what a source of numbers asks of it. -/
theorem ints_arg {W : World} {base : Nat} {t e : TypeId} {v : Value} {d : DataW H} {p : List MemPlace} (ht : P.underlying t = some (.slice e)) (he : P.underlying e = some (.int .i64)) (hc : P.cellsOf e = 1)
    (hv : Value.okWide P W .any base t v) (h : DataW.Trod enc P W 0 (fun _ => true) true t v d p) (hlt : ∀ x ∈ p, x.block < W.heap.size) :
    ∃ (A : Option Addr) (n c : Nat), v = .slice A n c ∧ (n : Int) ≤ 9223372036854775807 ∧ ∀ k, k < n → ∃ (ad : Addr) (z : Int), A = some ad ∧ ad.block < W.heap.size ∧ W.cell? (ad.add k) = some (.int .i64 z) ∧ -9223372036854775808 ≤ z ∧ z ≤ 9223372036854775807 := by
  obtain ⟨a0, len, cap, rfl⟩ := okWide_slice ht hv
  obtain ⟨fuel, hf⟩ := h
  rcases open_ints ht he hc hf with ⟨hcs, hx⟩ | ⟨a, len', cap', zs, hcs, _, hl, hm, hz, hx, hcell, hwz⟩
  · simp [Value.cells] at hcs
    obtain ⟨rfl, rfl, rfl⟩ := hcs
    exact ⟨none, 0, 0, rfl, by omega, fun k hk => by omega⟩
  · simp [Value.cells] at hcs
    obtain ⟨rfl, rfl, rfl⟩ := hcs
    simp only [if_true] at hz
    unfold maxLen at hm
    refine ⟨some a, len, cap, rfl, by omega, fun k hk => ?_⟩
    have hkz : k < zs.length := by omega
    have hw := bounds_i64 (hwz (zs.getD k 0) (by rw [List.getD_eq_getElem?_getD, List.getElem?_eq_getElem hkz]; exact List.getElem_mem hkz))
    refine ⟨a, zs.getD k 0, rfl, ?_, hcell k hkz, hw.1, hw.2⟩
    injection hx with _ hp
    have hmem : MemPlace.cell a.block (a.off + 0) ∈ p := by
      rw [hp]; unfold MemPlace.row; simp; omega
    exact hlt _ hmem
end
end Go.Proofs.YtbbihfafkpniiaaGreatDoor
/- The wrap of a law's row that keeps the world's shape beside what the listed variables hold. -/
namespace Go.Proofs.YtbbihfafkpniiaaGreatDoor
open Go
variable {H : Type} {enc : TypeId × Value → H}
theorem handed_and_shaped {a : Assume} {C : Checked} {os : Os} {f : FuncId} {fn : Func} {s : ChangeSpec} {conds : List PathCond} {apart fresh handsOn again : Bool} {X : World → Array Value → Prop}
    (hX : ∀ (w w' : World) (args : Array Value), w.heap = w'.heap → X w args → X w' args)
    (own : ownKnob C.prog.godebug = none) (started : os.Started) (noInit : C.prog.inits.idxOf? f = none) (hfn : C.prog.funcs[f]? = some fn)
    (witness : ∃ (w : World) (tape : Tape) (i : Input), w.os = os ∧ (w.forCall tape i).Shaped C.prog ∧ i.vars = [] ∧ Input.okWide C.prog (w.forCall tape i) .any w.heap.size f i ∧
      ((s.pre enc C.prog fn conds apart (w.forCall tape i).memory i.args ∧ X (w.forCall tape i).memory i.args) ∧ sizedMet enc C.prog fn (OpenSpec.ofChange s) apart (w.forCall tape i).memory i.args) ∧ a.holds C.prog (lone (Frame.enter C.prog f i.args .normal) [] (w.forCall tape i)))
    (contract : ∀ (W : World) (base : Nat) (args : Array Value) (ds gs : List (DataW H)) (before : List MemPlace),
      (∀ (j : Nat) t v, fn.params[j]? = some t → args[j]? = some v → Value.okWide C.prog W .any base t v) →
      DataW.Whole enc C.prog fn.params.toList s.vars apart W args.toList ds gs before → X W args → W.ShapedOpen C.prog →
      Calls C.prog f args W fun e W' => ∃ v, e = .returned v ∧ s.post enc C.prog fn apart fresh handsOn again W args v W') :
    ReturnsInHanded a C os f .any (fun w args => (s.pre enc C.prog fn conds apart w args ∧ X w args) ∧ sizedMet enc C.prog fn (OpenSpec.ofChange s) apart w args) (s.post enc C.prog fn apart fresh handsOn again) := by
  refine returnsInHanded_of_calls own started noInit witness ?_
  intro w tape i _ hsh _ hok hpre hholds
  obtain ⟨_, _, _, fn', hfn', _, _, _, _, hval⟩ := hok
  have e : fn' = fn := Option.some.inj (hfn'.symm.trans hfn)
  subst e
  obtain ⟨⟨⟨ds, gs, before, hw, hc⟩, hx⟩, hz⟩ := hpre
  have hw' := DataW.Whole.of_heap (w' := w.forCall tape i) (by rfl) hw
  refine (contract (w.forCall tape i) w.heap.size i.args ds gs before hval hw' (hX _ _ _ (by rfl) hx) hsh).mono fun e W' ⟨v, he, hp⟩ => ?_
  subst he
  exact ChangeSpec.post_blind hp
end Go.Proofs.YtbbihfafkpniiaaGreatDoor
/- Plain facts on lists of bytes, with no program in sight. -/
namespace Go.Proofs.YtbbihfafkpniiaaGreatDoor
theorem retB {a b : Bool} (h : a = b) : Ending.returned (.bool a) = .returned (.bool b) := by rw [h]
theorem retI {k : IntKind} {a b : Int} (h : a = b) : Ending.returned (.int k a) = .returned (.int k b) := by rw [h]
theorem retS {a b : ByteArray} (h : a = b) : Ending.returned (.string a) = .returned (.string b) := by rw [h]
/-- A byte that may stand between quotation marks. -/
def okc (c : UInt8) : Bool := decide (33 ≤ c.toNat) && decide (c.toNat ≤ 126) && decide (c.toNat ≠ 34)
def safeB (l : List UInt8) : Bool := l.all okc
theorem take_snoc (s : ByteArray) (k : Nat) (h : k < s.size) : s.data.toList.take (k + 1) = s.data.toList.take k ++ [s[k]] := by
  rw [List.take_succ_eq_append_getElem (by simpa using h)]; rfl
theorem take_all (s : ByteArray) (k : Nat) (h : s.size ≤ k) : s.data.toList.take k = s.data.toList :=
  List.take_of_length_le (by simpa using h)
theorem safe_snoc (l : List UInt8) (c : UInt8) : safeB (l ++ [c]) = (safeB l && okc c) := by simp [safeB, List.all_append]
theorem okc_true {c : UInt8} (h1 : 33 ≤ (c.toNat : Int)) (h2 : (c.toNat : Int) ≤ 126) (h3 : ((c.toNat : Int) == 34) = false) : okc c = true := by
  have : (c.toNat : Int) ≠ 34 := by simpa using h3
  unfold okc; simp; omega
theorem okc_true_inv {c : UInt8} (h : okc c = true) : 33 ≤ (c.toNat : Int) ∧ (c.toNat : Int) ≤ 126 ∧ ((c.toNat : Int) == 34) = false := by
  unfold okc at h; simp at h; refine ⟨by omega, by omega, by simp; omega⟩
theorem safe_step (s : ByteArray) (k : Nat) (h : k < s.size) (hp : safeB (s.data.toList.take k) = true) (hc : okc s[k] = true) : safeB (s.data.toList.take (k + 1)) = true := by
  rw [take_snoc s k h, safe_snoc, hp, hc]; rfl
theorem safe_stop (s : ByteArray) (k : Nat) (h : k < s.size) (hc : okc s[k] = false) : safeB s.data.toList = false := by
  rw [← Bool.not_eq_true]; intro hall
  have := (List.all_eq_true.1 hall) s[k] (Array.mem_toList_iff.2 (Array.getElem_mem (xs := s.data) h))
  rw [hc] at this; cases this
/-- The hexadecimal digit of a number below 16. -/
def hexd (n : Nat) : UInt8 := if n < 10 then UInt8.ofNat (48 + n) else UInt8.ofNat (87 + n)
def hex2 (c : UInt8) : List UInt8 := [hexd (c.toNat / 16), hexd (c.toNat % 16)]
def hexL (l : List UInt8) : List UInt8 := l.flatMap hex2
def quoteL (l : List UInt8) : List UInt8 := if safeB l then 34 :: (l ++ [34]) else 120 :: hexL l
def quoteS (s : ByteArray) : ByteArray := if 640 < s.size then ⟨#[]⟩ else ⟨(quoteL s.data.toList).toArray⟩
def quoteE (s : ByteArray) : Int := if 640 < s.size then 20 else 0
theorem hexL_snoc (l : List UInt8) (c : UInt8) : hexL (l ++ [c]) = hexL l ++ hex2 c := by simp [hexL]
theorem hexL_length (l : List UInt8) : (hexL l).length = 2 * l.length := by
  induction l with
  | nil => rfl
  | cons c l ih =>
    have e : hexL (c :: l) = hex2 c ++ hexL l := rfl
    rw [e, List.length_append, ih, List.length_cons]; simp only [hex2, List.length_cons, List.length_nil]; omega
theorem str_ne {a b : ByteArray} (h : a ≠ b) : (a.toList == b.toList) = false := by
  rw [ByteArray.toList_eq, ByteArray.toList_eq, beq_eq_false_iff_ne]
  exact fun e => h (ByteArray.ext (Array.toList_inj.1 e))
theorem str_eq {a b : ByteArray} (h : a = b) : (a.toList == b.toList) = true := by rw [h]; simp
abbrev bv (c : UInt8) : Value := .int .u8 (c.toNat : Int)
end Go.Proofs.YtbbihfafkpniiaaGreatDoor
/- Rows of bytes of the call's own, and the string that they make; parts of Below. -/
namespace Go.Proofs.YtbbihfafkpniiaaGreatDoor
open Go.RowKit
/-- string(b) of a row of bytes of the call's own. -/
theorem conv_own {P : Program} {w : World} {base : Nat} {src dst e : TypeId} {v : Value} {n : Nat} {l : List UInt8} (h : w.ownsRow base e 1 v n (l.map bv))
    (hs : P.underlying src = some (.slice e)) (he : P.underlying e = some (.int .u8)) (hd : P.underlying dst = some .string) :
    (convert src dst v).run P w = .ok (.string ⟨l.toArray⟩) w := by
  have hl : n = l.length := by have := h.1; simp at this; omega
  rcases Joins.ownsRow_forms h with ⟨rfl, h0⟩ | ⟨g, cap, rfl⟩
  · have : l = [] := List.eq_nil_of_length_eq_zero (by omega)
    subst this
    exact Lib.run_convert_nil_bytes w src dst e 0 hs he hd
  · subst hl
    exact run_convert_bytes_back w src dst e _ cap l hs he hd fun j hj => h.cells (g := g) rfl j _ (by simp [List.getElem?_eq_getElem hj])
theorem below_grown_own {B base size n : Nat} {e : TypeId} {v : Value} {xs : List Value} {a w w1 w2 : World} (h : Below B a w1) (hown : w.ownsRow base e size v n xs) (hb : B ≤ base) (hg : w1.grownBy w2 v.ownBlock) (hB : B ≤ w1.heap.size) : Below B a w2 :=
  h.grown hg hB fun k hk => Nat.le_trans hb (hown.lt k hk).1
theorem below_drewN {B : Nat} {a w : World} (h : Below B a w) (n : Nat) : Below B a (w.drewN n) := ⟨h.os, h.tape, h.output, h.size, h.block⟩
theorem bcell {W w1 : World} (hb : Below W.heap.size W w1) : (∀ b o, b < W.heap.size → w1.cell? ⟨b, o, none⟩ = W.cell? ⟨b, o, none⟩) ∧ (∀ b o, b < W.heap.size → w1.frozen? ⟨b, o, none⟩ = W.frozen? ⟨b, o, none⟩) :=
  ⟨fun b o h => hb.cell (p := ⟨b, o, none⟩) h, fun b o h => hb.frozen (p := ⟨b, o, none⟩) h⟩
/-- One call after the other, each of which leaves what was there. -/
theorem below_then {a b c : World} (h : Below a.heap.size a b) (k : Below b.heap.size b c) : Below a.heap.size a c := h.trans (k.mono h.size)
/-- The variable g lies whole in its block. -/
def Glob (w : World) (g : Nat) (cs : Array Value) : Prop := ∃ tt fr, w.heap[g]? = some (.cells cs tt fr)
theorem Glob.lt {w : World} {g : Nat} {cs : Array Value} (h : Glob w g cs) : g < w.heap.size := by
  obtain ⟨tt, fr, h⟩ := h
  rcases Nat.lt_or_ge g w.heap.size with hlt | hge
  · exact hlt
  · rw [Array.getElem?_eq_none hge] at h; cases h
theorem Glob.cell {w : World} {g : Nat} {cs : Array Value} (h : Glob w g cs) (i : Nat) : w.cell? ⟨g, i, none⟩ = cs[i]? := by
  obtain ⟨tt, fr, h⟩ := h
  exact cell_of_row w g i cs tt fr h
theorem Glob.below {B : Nat} {w w' : World} {g : Nat} {cs : Array Value} (h : Glob w g cs) (hb : Below B w w') (hB : w.heap.size ≤ B) : Glob w' g cs := by
  have hlt := h.lt
  obtain ⟨tt, fr, h⟩ := h
  exact ⟨tt, fr, (hb.block g (by omega)).trans h⟩
theorem glob_of_tab {P : Program} {W : World} {name : String} {k : IntKind} {zs : List Int} {g : Nat} {cs : Array Value} (h : Lib.TabIs P W name k zs) (hg : P.globalNamed name = some g) (hc : cs = (zs.map (Value.int k)).toArray) : Glob W g cs := by
  subst hc
  unfold Lib.TabIs World.var? at h
  rw [hg] at h
  simp only [Option.bind_some] at h
  split at h
  · rename_i cs tt fr he
    injection h with h
    exact ⟨tt, fr, by rw [he, h]⟩
  · cases h
end Go.Proofs.YtbbihfafkpniiaaGreatDoor
/- Listed variables: arrays of strings, arrays of rows. -/
namespace Go.Proofs.YtbbihfafkpniiaaGreatDoor
open Go.ChangeShapes Go.WideShapes Go.RowKit Go.Joins Go.Deep
theorem chunks {α : Type} {c : Nat} : ∀ {L : List (List α)} {cs : List α}, cs.length = L.length * c → (∀ i (hi : i < L.length), (cs.drop (i * c)).take c = L[i]) → cs = L.flatten
  | [], cs, h, _ => by simp at h; simp [h]
  | x :: L, cs, h, hi => by
    have h0 := hi 0 (by simp)
    simp at h0
    have hr : cs.drop c = L.flatten := chunks (c := c) (by rw [List.length_drop, h, List.length_cons, Nat.add_mul]; omega) (fun i hlt => by
      have := hi (i + 1) (by simp; omega)
      rw [List.drop_drop, show c + i * c = (i + 1) * c by rw [Nat.add_mul]; omega]
      simpa using this)
    rw [List.flatten_cons, ← hr, ← h0, List.take_append_drop]
section
variable {H : Type} {enc : TypeId × Value → H} {P : Program} {w : World} {base : Nat} {sp : Nat → Bool} {held : Bool}
theorem one_at {cs : List Value} {j : Nat} {v : Value} (h : (cs.drop j).take 1 = [v]) : cs[j]? = some v := by
  have := congrArg (·[0]?) h
  simpa [List.getElem?_take, List.getElem?_drop] using this
/-- A struct of a string and four integers, out of its datum. -/
theorem row5_cells {fuel : Nat} {t : TypeId} {f0 f1 f2 f3 f4 : Field} {k : IntKind} {cs : List Value} {l : List UInt8} {a b c d : Int} {p : List MemPlace} (hs : P.underlying t = some (.struct #[f0, f1, f2, f3, f4])) (hone : oneCellFields P #[f0, f1, f2, f3, f4] = true) (hC : P.cellsOf t = 5)
    (h0 : P.underlying f0.type = some .string) (h1 : P.underlying f1.type = some (.int k)) (h2 : P.underlying f2.type = some (.int k)) (h3 : P.underlying f3.type = some (.int k)) (h4 : P.underlying f4.type = some (.int k))
    (h : DataW.trod enc P w base sp held fuel t cs = some (.agg [.lit (.string l), .lit (.int k a), .lit (.int k b), .lit (.int k c), .lit (.int k d)], p)) : cs = [.string ⟨l.toArray⟩, .int k a, .int k b, .int k c, .int k d] := by
  obtain ⟨xs, n, _, hx, hl, hlen, hg⟩ := DataW.trod_struct hs h
  obtain ⟨o0, k0⟩ := hone_of hone 0 f0 rfl
  obtain ⟨o1, k1⟩ := hone_of hone 1 f1 rfl
  obtain ⟨o2, k2⟩ := hone_of hone 2 f2 rfl
  obtain ⟨o3, k3⟩ := hone_of hone 3 f3 rfl
  obtain ⟨o4, k4⟩ := hone_of hone 4 f4 rfl
  match xs, hlen with
  | [y0, y1, y2, y3, y4], _ =>
    simp only [Prod.mk.injEq] at hx
    have hx1 := hx.1
    simp at hx1
    obtain ⟨e0, e1, e2, e3, e4⟩ := hx1
    have g0 := hg 0 f0 rfl
    have g1 := hg 1 f1 rfl
    have g2 := hg 2 f2 rfl
    have g3 := hg 3 f3 rfl
    have g4 := hg 4 f4 rfl
    rw [o0, k0] at g0
    rw [o1, k1] at g1
    rw [o2, k2] at g2
    rw [o3, k3] at g3
    rw [o4, k4] at g4
    simp only [List.getElem?_cons_zero, List.getElem?_cons_succ] at g0 g1 g2 g3 g4
    obtain ⟨s, c0, z0, _⟩ := DataW.trod_string h0 g0
    obtain ⟨n1, c1, z1, _⟩ := DataW.trod_int h1 g1
    obtain ⟨n2, c2, z2, _⟩ := DataW.trod_int h2 g2
    obtain ⟨n3, c3, z3, _⟩ := DataW.trod_int h3 g3
    obtain ⟨n4, c4, z4, _⟩ := DataW.trod_int h4 g4
    rw [z0] at e0; rw [z1] at e1; rw [z2] at e2; rw [z3] at e3; rw [z4] at e4
    simp at e0 e1 e2 e3 e4
    have q0 := one_at c0
    have q1 := one_at c1
    have q2 := one_at c2
    have q3 := one_at c3
    have q4 := one_at c4
    subst e1 e2 e3 e4
    have es : s = ⟨l.toArray⟩ := by rw [e0]
    subst es
    match cs, hl.trans hC with
    | [x0, x1, x2, x3, x4], _ =>
      simp at q0 q1 q2 q3 q4
      rw [q0, q1, q2, q3, q4]
/-- An array whose elements are known, element by element. -/
theorem arr_cells {fuel n c : Nat} {t e : TypeId} {cs : List Value} {ds : List (DataW H)} {p : List MemPlace} {L : List (List Value)} (ht : P.underlying t = some (.array n e)) (hce : P.cellsOf e = c) (hct : P.cellsOf t = n * c) (hL : L.length = n)
    (h : DataW.trod enc P w base sp held fuel t cs = some (.agg ds, p))
    (hel : ∀ i (hi : i < L.length) m cs' d q, ds[i]? = some d → DataW.trod enc P w base sp held m e cs' = some (d, q) → cs' = L[i]) : cs = L.flatten := by
  obtain ⟨xs, m, _, hx, hl, hlen, hg⟩ := DataW.trod_array ht h
  simp only [Prod.mk.injEq] at hx
  have hx1 := hx.1
  simp at hx1
  refine chunks (c := c) (by rw [hl, hct, hL]) fun i hi => ?_
  have := hg i (by omega)
  rw [hce] at this
  have hxi : xs[i]? = some (xs[i]'(by omega)) := List.getElem?_eq_getElem (by omega)
  rw [hxi] at this
  exact hel i hi m _ _ _ (by rw [hx1, List.getElem?_map, hxi]; rfl) this
/-- A field of a struct that is read: its type, its offset and its number of cells. -/
theorem field_of {n : Nat} {fs : Array Field} {cs : List Value} {xs : List (DataW H × List MemPlace)} (hg : ∀ (i : Nat) (f : Field), fs[i]? = some f → DataW.trod enc P w base sp held n f.type ((cs.drop f.offset).take (P.cellsOf f.type)) = xs[i]?) (i : Nat) (ty : TypeId) (off k : Nat)
    (h : (fs[i]?).map (fun f => (f.type, f.offset)) = some (ty, off)) (hk : P.cellsOf ty = k) : DataW.trod enc P w base sp held n ty ((cs.drop off).take k) = xs[i]? := by
  cases hf : fs[i]? with
  | none => rw [hf] at h; cases h
  | some f =>
    rw [hf] at h
    simp at h
    have := hg i f hf
    rw [h.1, h.2, hk] at this
    exact this
/-- A listed array, out of the row's condition. -/
theorem glob_of_laid {P : Program} {W : World} {laid : List (String × DataW Unit)} {name : String} {ds : List (DataW Unit)} {g n c : Nat} {t e : TypeId} {L : List (List Value)} {cs : Array Value} (i : Nat)
    (hpl : (laid.all fun x => x.2.handleName?.isNone) = true) (h : laidMetH P laid W) (hi : laid[i]? = some (name, .agg ds))
    (hg : P.globalNamed name = some g) (hty : (P.globals[g]?).map (·.type) = some t) (ht : P.underlying t = some (.array n e)) (hce : P.cellsOf e = c) (hct : P.cellsOf t = n * c) (hL : L.length = n) (hcs : cs = L.flatten.toArray)
    (hel : ∀ (w : World) i (hi : i < L.length) m cs' d q, ds[i]? = some d → DataW.trod (fun _ => ()) P w 0 (fun _ => true) false m e cs' = some (d, q) → cs' = L[i]) : Glob W g cs := by
  rw [MakeChecks.laidMetH_plain _ _ _ hpl] at h
  obtain ⟨ps, hv, _⟩ := h
  obtain ⟨g', t', cs', fuel, p, hg', ht', hvar, hd⟩ := vars_at hv i name _ hi
  obtain rfl := Option.some.inj (hg.symm.trans hg')
  obtain rfl := Option.some.inj (hty.symm.trans ht')
  have hc := arr_cells ht hce hct hL hd (hel W)
  unfold World.var? at hvar
  rw [hg] at hvar
  simp only [Option.bind_some] at hvar
  split at hvar
  · rename_i cs2 tt fr he
    injection hvar with hvar
    subst hvar
    refine ⟨tt, fr, by rw [he, hcs, ← hc]⟩
  · cases hvar
end
end Go.Proofs.YtbbihfafkpniiaaGreatDoor
/- Fields of a context, and tests of them: plain functions. -/
namespace Go.Proofs.YtbbihfafkpniiaaGreatDoor
def fieldL : List ByteArray := [⟨#[]⟩, ⟨#[112, 105, 100]⟩, ⟨#[112, 112, 105, 100]⟩, ⟨#[117, 105, 100]⟩, ⟨#[101, 117, 105, 100]⟩, ⟨#[103, 105, 100]⟩, ⟨#[101, 103, 105, 100]⟩, ⟨#[97, 117, 105, 100]⟩, ⟨#[115, 101, 115]⟩, ⟨#[97, 48]⟩, ⟨#[97, 49]⟩, ⟨#[97, 50]⟩, ⟨#[97, 51]⟩, ⟨#[101, 120, 101]⟩, ⟨#[99, 111, 109, 109]⟩, ⟨#[101, 120, 105, 116]⟩, ⟨#[115, 117, 99, 99, 101, 115, 115]⟩, ⟨#[105, 110, 111, 100, 101]⟩, ⟨#[100, 101, 118]⟩, ⟨#[111, 98, 106, 95, 117, 105, 100]⟩, ⟨#[111, 98, 106, 95, 103, 105, 100]⟩, ⟨#[107, 105, 110, 100]⟩, ⟨#[116, 121, 112, 101]⟩]
def fieldN (k : Nat) : ByteArray := fieldL.getD k ⟨#[]⟩
def opL : List ByteArray := [⟨#[]⟩, ⟨#[61]⟩, ⟨#[33, 61]⟩, ⟨#[60]⟩, ⟨#[60, 61]⟩, ⟨#[62]⟩, ⟨#[62, 61]⟩, ⟨#[38]⟩, ⟨#[38, 61]⟩]
def opN (k : Nat) : ByteArray := opL.getD k ⟨#[]⟩
/-- The name of a field, or the empty text. -/
def nameF (f : Int) : ByteArray := if f < 1 ∨ 22 < f then ⟨#[]⟩ else fieldN f.toNat
/-- The number of a name, or 0. -/
def numF (s : ByteArray) : Int := match (List.range 22).find? (fun n => (fieldN (n + 1)).toList == s.toList) with | some n => (n : Int) + 1 | none => 0
theorem numF_at {s : ByteArray} {k : Nat} (hk : k < 22) (h : ∀ j, j < k → fieldN (j + 1) ≠ s) (he : fieldN (k + 1) = s) : numF s = (k : Int) + 1 := by
  have : (List.range 22).find? (fun n => (fieldN (n + 1)).toList == s.toList) = some k := by
    rw [List.find?_range_eq_some]
    refine ⟨str_eq he, by simpa using hk, fun j hj => ?_⟩
    simp [str_ne (h j hj)]
  unfold numF; rw [this]
theorem numF_none {s : ByteArray} (h : ∀ j, j < 22 → fieldN (j + 1) ≠ s) : numF s = 0 := by
  have : (List.range 22).find? (fun n => (fieldN (n + 1)).toList == s.toList) = none := by
    rw [List.find?_range_eq_none]
    intro j hj
    simp [str_ne (h j hj)]
  unfold numF; rw [this]
def procB (f : Int) : Bool := decide ((1 ≤ f ∧ f ≤ 8) ∨ f = 13 ∨ f = 14)
/-- May a rule of the list l ask the field f? -/
def allowB (l f : Int) : Bool :=
  if l = 1 ∨ l = 4 then procB f
  else if l = 2 then decide (1 ≤ f ∧ f ≤ 14)
  else if l = 3 then decide (1 ≤ f ∧ f ≤ 21)
  else if l = 5 then procB f || decide (f = 22)
  else false
def textB (f : Int) : Bool := decide (f = 13 ∨ f = 14)
def ownerB (f : Int) : Bool := decide ((3 ≤ f ∧ f ≤ 7) ∨ f = 19 ∨ f = 20)
def itemB (f : Int) : Bool := decide (17 ≤ f ∧ f ≤ 21)
/-- The first error of a test in a rule of the list l. -/
def checkF (fd op nu : Int) (tx : ByteArray) (ot l : Int) : Int :=
  if allowB l fd = false then 120
  else if ot ≠ 0 ∧ (allowB l ot = false ∨ ownerB fd = false ∨ ownerB ot = false) then 120
  else if op < 1 ∨ 8 < op then 121
  else if 2 < op ∧ (textB fd = true ∨ ot ≠ 0) then 121
  else if ot ≠ 0 ∧ (nu ≠ 0 ∨ tx.size ≠ 0) then 122
  else if textB fd = true ∧ (nu ≠ 0 ∨ tx.size = 0 ∨ 640 < tx.size) then 122
  else if textB fd = false ∧ tx.size ≠ 0 then 122
  else 0
theorem allow_range {l f : Int} (h : allowB l f = true) : 1 ≤ f ∧ f ≤ 22 := by
  unfold allowB procB at h
  split at h
  · simp at h; omega
  · split at h
    · simp at h; omega
    · split at h
      · simp at h; omega
      · split at h
        · simp at h; omega
        · cases h
theorem owner_text {f : Int} (h : ownerB f = true) : textB f = false := by
  unfold ownerB at h; unfold textB; simp at *; omega
theorem checkF_zero {fd op nu : Int} {tx : ByteArray} {ot l : Int} (h : checkF fd op nu tx ot l = 0) : allowB l fd = true ∧ (ot = 0 ∨ (allowB l ot = true ∧ ownerB fd = true ∧ ownerB ot = true)) ∧ (1 ≤ op ∧ op ≤ 8) ∧ (op ≤ 2 ∨ (textB fd = false ∧ ot = 0)) ∧ (ot = 0 ∨ (nu = 0 ∧ tx.size = 0)) ∧ (textB fd = false ∨ (nu = 0 ∧ tx.size ≠ 0 ∧ tx.size ≤ 640)) ∧ (textB fd = true ∨ tx.size = 0) := by
  unfold checkF at h
  split at h
  · cases h
  · split at h
    · cases h
    · split at h
      · cases h
      · split at h
        · cases h
        · split at h
          · cases h
          · split at h
            · cases h
            · split at h
              · cases h
              · rename_i h1 h2 h3 h4 h5 h6 h7
                cases hx : allowB l fd <;> cases hy : textB fd <;> cases hz : allowB l ot <;> cases hu : ownerB fd <;> cases hv : ownerB ot <;> by_cases hot : ot = 0 <;> by_cases hnu : nu = 0 <;> simp_all <;> omega
end Go.Proofs.YtbbihfafkpniiaaGreatDoor
/- Decimal of the reference writes the decimal digits of a number that is not negative. -/
namespace Go.Proofs.YtbbihfafkpniiaaGreatDoor
open Go.RowKit
theorem nd_le : ∀ (k u : Nat), u < 10 ^ (k + 1) → Lib.nDigits u ≤ k + 1
  | 0, u, h => by rw [Lib.nDigits_small (by simpa using h)]; omega
  | k + 1, u, h => by
    by_cases hu : u < 10
    · rw [Lib.nDigits_small hu]; omega
    · rw [Lib.nDigits_big hu]
      have := nd_le k (u / 10) (by rw [Nat.pow_succ] at h; omega)
      omega
theorem dec_len (u : Nat) (h : u < 10000000000000000000) : (Lib.decDigits u).length ≤ 19 := by
  rw [Lib.decDigits_length]; exact nd_le 18 u h
/-- The decimal digits of n as a string. -/
def decS (n : Nat) : ByteArray := ⟨(Lib.decDigits n).toArray⟩
theorem decS_size (n : Nat) (h : n < 10000000000000000000) : (decS n).size ≤ 19 := by
  have : (decS n).size = (Lib.decDigits n).length := by show (Lib.decDigits n).toArray.size = _; simp
  rw [this]; exact dec_len n h
theorem enc_digit : ∀ d : Fin 10, Utf8.encode (48 + (d.val : Int)) = ⟨#[UInt8.ofNat (48 + d.val)]⟩ := by decide +kernel
theorem enc_dig (x : Int) (h0 : 0 ≤ x) (h1 : x < 10) : Utf8.encode (48 + x) = ⟨#[UInt8.ofNat (48 + x.toNat)]⟩ := by
  have := enc_digit ⟨x.toNat, by omega⟩
  simp only [Int.toNat_of_nonneg h0] at this
  exact this
def DecLeft (n m : Nat) (T : ByteArray) : Prop := Lib.decDigits n = Lib.decDigits m ++ T.data.toList
theorem DecLeft.step {n m : Nat} {T : ByteArray} (h : DecLeft n m T) (hm : 10 ≤ m) : DecLeft n (m / 10) (⟨#[UInt8.ofNat (48 + m % 10)]⟩ ++ T) := by
  unfold DecLeft at *
  rw [h, Lib.decDigits, dif_neg (by omega)]
  simp
theorem DecLeft.done {n m : Nat} {T : ByteArray} (h : DecLeft n m T) (hm : m < 10) : ⟨#[UInt8.ofNat (48 + m)]⟩ ++ T = decS n := by
  unfold DecLeft at h
  unfold decS
  rw [h, Lib.decDigits_one hm]
  apply ByteArray.ext; simp
theorem DecLeft.size {n m : Nat} {T : ByteArray} (h : DecLeft n m T) (hn : n < 10000000000000000000) : T.size ≤ 19 := by
  have h1 := dec_len n hn
  unfold DecLeft at h
  rw [h, List.length_append] at h1
  have h2 : T.data.toList.length = T.size := Array.length_toList
  omega
attribute [local irreducible] Utf8.encode
set_option maxHeartbeats 400000 in
theorem decimal (n : Nat) (w : World) (hn : (n : Int) ≤ 9223372036854775807) :
    Calls Tryz.prog 62 #[.int .i64 (n : Int)] w fun e w' => e = .returned (.string (decS n)) ∧ w = w' := by
  go_enter Tryz.func62, Tryz.ntmps62
  go_wp2
  go_loop [0, 3] (fun x v => ∃ (m : Nat) (T : ByteArray), (m : Int) ≤ 9223372036854775807 ∧ x = .int .i64 (m : Int) ∧ v = .string T ∧ T.size ≤ 19 ∧ Hid (DecLeft n m T)) (fun x _ => (intOf x).toNat)
  case atStart => exact ⟨n, ⟨#[]⟩, hn, rfl, rfl, by decide, show DecLeft _ _ _ from by simp [DecLeft]⟩
  case round =>
    obtain ⟨m, T, hm, rfl, rfl, hT, hleft⟩ := hrel
    by_cases hlt : 10 ≤ m
    · have H := Lib.hid (hleft.out.step hlt)
      have HZ := Lib.hid (H.out.size (by omega))
      have q0 : (0 : Int) ≤ (m : Int) % 10 := by omega
      have q1 : (m : Int) % 10 < 10 := by omega
      have HE := Lib.hid (enc_dig _ q0 q1)
      have hEz : (Utf8.encode (48 + (m : Int) % 10)).size ≤ 1 := by rw [HE.out]; exact Nat.le_refl 1
      go_wp2
      go_round
      case rel => exact ⟨m / 10, _, by omega, by go_num, rfl, by rw [HE.out, show ((m : Int) % 10).toNat = m % 10 by omega]; exact HZ.out, by rw [HE.out, show ((m : Int) % 10).toNat = m % 10 by omega]; exact H⟩
      case measure => simp [intOf]; omega
    · have H := Lib.hid (hleft.out.done (by omega))
      have q0 : (0 : Int) ≤ (m : Int) := by omega
      have q1 : (m : Int) < 10 := by omega
      have HE := Lib.hid (enc_dig _ q0 q1)
      have hEz : (Utf8.encode (48 + (m : Int))).size ≤ 1 := by rw [HE.out]; exact Nat.le_refl 1
      go_wp2
      go_ret
      exact ⟨retS (by rw [HE.out, Int.toNat_natCast]; exact H.out), rfl⟩
end Go.Proofs.YtbbihfafkpniiaaGreatDoor
/- Numbers as texts: Itoa of Go's library. -/
namespace Go.Proofs.YtbbihfafkpniiaaGreatDoor
open Go.RowKit
/-- The decimal numeral of n as a string. -/
def numS (n : Int) : ByteArray := ⟨(Lib.itoa n).toArray⟩
/-- The table of powers of ten of Go's library. -/
def Pow (w : World) : Prop := Lib.TabIs Tryz.prog w "internal/strconv.uint64pow10" .u64 Lib.pow10Tab
theorem pow_g : Tryz.prog.globalNamed "internal/strconv.uint64pow10" = some 7 := by kernel_rfl
theorem var_below {P : Program} {w w' : World} {name : String} {g : Nat} {cs : Array Value} {B : Nat} (hg : P.globalNamed name = some g) (h : w.var? P name = some cs) (hb : Below B w w') (hB : w.heap.size ≤ B) : w'.var? P name = some cs := by
  have hlt : g < w.heap.size := by
    unfold World.var? at h
    rw [hg] at h
    simp only [Option.bind_some] at h
    split at h
    · rename_i he
      exact (Array.getElem?_eq_some_iff.1 he).1
    · cases h
  unfold World.var? at h ⊢
  rw [hg] at h ⊢
  simp only [Option.bind_some] at h ⊢
  rw [hb.block g (by omega)]
  exact h
theorem Pow.below {B : Nat} {w w' : World} (h : Pow w) (hb : Below B w w') (hB : w.heap.size ≤ B) : Pow w' := var_below pow_g h hb hB
theorem vitoa (n : Int) (h0 : -9223372036854775808 ≤ n) (h1 : n ≤ 9223372036854775807) (w : World) (hp : Pow w) :
    Calls Tryz.prog 69 #[.int .i64 n] w fun e w' => e = .returned (.string (numS n)) ∧ Below w.heap.size w w' :=
  (Tryz.strconv_Itoa n h0 h1 w hp).mono fun _ _ hh => ⟨hh.1, by obtain ⟨k, os, rfl⟩ := hh.2; exact Lib.below_grow _ _ (Nat.le_refl _) _ _⟩
end Go.Proofs.YtbbihfafkpniiaaGreatDoor
/- Number of the reference. -/
namespace Go.Proofs.YtbbihfafkpniiaaGreatDoor
open Go.RowKit
theorem numS_pos (n : Nat) : numS (n : Int) = decS n := by
  unfold numS decS Lib.itoa; rw [if_neg (by omega)]; rfl
theorem numS_neg (n : Nat) (h : 0 < n) : numS (-(n : Int)) = ⟨#[45]⟩ ++ decS n := by
  unfold numS decS Lib.itoa; rw [if_pos (by omega), show (-(n : Int)).natAbs = n by omega]
  apply ByteArray.ext; simp
theorem numS_least : numS (-9223372036854775808) = ⟨#[45]⟩ ++ decS 922337203685477580 ++ decS 8 := by
  have e : (-9223372036854775808 : Int) = -((9223372036854775808 : Nat) : Int) := by omega
  rw [e, numS_neg _ (by omega)]
  have : decS 9223372036854775808 = decS 922337203685477580 ++ decS 8 := by
    unfold decS
    rw [Lib.decDigits, dif_neg (by omega)]
    rw [show 9223372036854775808 / 10 = 922337203685477580 from rfl, show 9223372036854775808 % 10 = 8 from rfl, Lib.decDigits_one (show 8 < 10 by omega)]
    apply ByteArray.ext; simp
  rw [this, ByteArray.append_assoc]
set_option maxHeartbeats 400000 in
theorem rnumber_pos (n : Nat) (w : World) (hn : (n : Int) ≤ 9223372036854775807) :
    Calls Tryz.prog 67 #[.int .i64 (n : Int)] w fun e w' => e = .returned (.string (numS n)) ∧ w = w' := by
  have H := Lib.hid (numS_pos n)
  go_enter Tryz.func67, Tryz.ntmps67
  go_wp2_with (go_at_call 62; refine (decimal n _ hn).mono ?_; rintro e w' ⟨rfl, rfl⟩)
  go_ret
  exact ⟨retS H.out.symm, rfl⟩
set_option maxHeartbeats 400000 in
theorem rnumber_neg (n : Nat) (w : World) (h0 : 0 < (n : Int)) (hn : (n : Int) ≤ 9223372036854775807) :
    Calls Tryz.prog 67 #[.int .i64 (-(n : Int))] w fun e w' => e = .returned (.string (numS (-(n : Int)))) ∧ w = w' := by
  have H := Lib.hid (numS_neg n (by omega))
  have hz := decS_size n (by omega)
  go_enter Tryz.func67, Tryz.ntmps67
  go_wp2_with fail
  refine (decimal n _ hn).mono ?_
  rintro e w' ⟨rfl, rfl⟩
  go_wp2_with fail
  go_ret
  exact ⟨retS H.out.symm, rfl⟩
attribute [local irreducible] decS
set_option maxRecDepth 100000 in
set_option maxHeartbeats 400000 in
theorem rnumber_least (w : World) :
    Calls Tryz.prog 67 #[.int .i64 (-9223372036854775808)] w fun e w' => e = .returned (.string (numS (-9223372036854775808))) ∧ w = w' := by
  have H := Lib.hid numS_least
  have hz1 := decS_size 922337203685477580 (by omega)
  have hz2 := decS_size 8 (by omega)
  have hd1 := Lib.hid (fun w => decimal 922337203685477580 w (by omega))
  have hd2 := Lib.hid (fun w => decimal 8 w (by omega))
  have hneg : wrap64 9223372036854775808 < 0 := by decide +kernel
  go_enter Tryz.func67, Tryz.ntmps67
  go_wp2_with fail
  refine (hd1.out _).mono ?_
  rintro e w' ⟨rfl, rfl⟩
  go_wp2_with fail
  refine (hd2.out _).mono ?_
  rintro e w' ⟨rfl, rfl⟩
  go_wp2_with fail
  go_ret
  exact ⟨retS H.out.symm, rfl⟩
theorem rnumber (n : Int) (h0 : -9223372036854775808 ≤ n) (h1 : n ≤ 9223372036854775807) (w : World) :
    Calls Tryz.prog 67 #[.int .i64 n] w fun e w' => e = .returned (.string (numS n)) ∧ w = w' := by
  by_cases hn : 0 ≤ n
  · obtain ⟨k, rfl⟩ := Int.eq_ofNat_of_zero_le hn
    exact rnumber_pos k w (by omega)
  · by_cases hm : n = -9223372036854775808
    · subst hm
      exact rnumber_least w
    · obtain ⟨k, rfl⟩ : ∃ k : Nat, n = -(k : Int) := ⟨n.natAbs, by omega⟩
      exact rnumber_neg k w (by omega) (by omega)
end Go.Proofs.YtbbihfafkpniiaaGreatDoor
/- Decimal digits: plain facts. -/
namespace Go.Proofs.YtbbihfafkpniiaaGreatDoor
/-- The number that decimal digits say. -/
def valD (l : List UInt8) : Nat := l.foldl (fun v c => 10 * v + (c.toNat - 48)) 0
theorem valD_snoc (l : List UInt8) (c : UInt8) : valD (l ++ [c]) = 10 * valD l + (c.toNat - 48) := by simp [valD, List.foldl_append]
def digB (c : UInt8) : Bool := decide (48 ≤ c.toNat) && decide (c.toNat ≤ 57)
theorem dig_nat (d : Nat) (h : d < 10) : (UInt8.ofNat (48 + d)).toNat = 48 + d := by rw [UInt8.toNat_ofNat']; omega
theorem dec_props (u : Nat) : valD (Lib.decDigits u) = u ∧ (Lib.decDigits u).all digB = true ∧ Lib.decDigits u ≠ [] := by
  induction u using Nat.strongRecOn with
  | _ u ih =>
    by_cases h : u < 10
    · rw [Lib.decDigits_one h]
      refine ⟨?_, ?_, by simp⟩
      · simp [valD]; omega
      · simp [digB]; omega
    · have := ih (u / 10) (by omega)
      rw [Lib.decDigits, dif_neg h]
      refine ⟨?_, ?_, by simp⟩
      · rw [valD_snoc, this.1, dig_nat _ (by omega)]; omega
      · rw [List.all_append, this.2.1]
        simp [digB]; omega
theorem dec_inj {u v : Nat} (h : Lib.decDigits u = Lib.decDigits v) : u = v := by rw [← (dec_props u).1, h, (dec_props v).1]
theorem dec_head (u : Nat) : ∃ c r, Lib.decDigits u = c :: r ∧ 48 ≤ c.toNat ∧ c.toNat ≤ 57 := by
  obtain ⟨_, h2, h3⟩ := dec_props u
  cases hl : Lib.decDigits u with
  | nil => exact absurd hl h3
  | cons c r =>
    rw [hl] at h2
    simp [digB] at h2
    exact ⟨c, r, rfl, h2.1.1, h2.1.2⟩
theorem itoa_inj {m n : Int} (h : Lib.itoa m = Lib.itoa n) : m = n := by
  unfold Lib.itoa at h
  split at h <;> split at h
  · injection h with _ h
    have := dec_inj h; omega
  · obtain ⟨c, r, e, h1, h2⟩ := dec_head n.toNat
    rw [e] at h; injection h with h _; rw [← h] at h1; simp at h1
  · obtain ⟨c, r, e, h1, h2⟩ := dec_head m.toNat
    rw [e] at h; injection h with h _; rw [h] at h1; simp at h1
  · have := dec_inj h; omega
theorem itoa_head (n : Int) : ∃ c r, Lib.itoa n = c :: r ∧ (c.toNat = 45 ∨ (48 ≤ c.toNat ∧ c.toNat ≤ 57)) := by
  unfold Lib.itoa; split
  · exact ⟨45, _, rfl, .inl rfl⟩
  · obtain ⟨c, r, e, h1, h2⟩ := dec_head n.toNat
    exact ⟨c, r, e, .inr ⟨h1, h2⟩⟩
theorem bytes_ext {a b : ByteArray} (h : a.data.toList = b.data.toList) : a = b := ByteArray.ext (Array.toList_inj.1 h)
end Go.Proofs.YtbbihfafkpniiaaGreatDoor
