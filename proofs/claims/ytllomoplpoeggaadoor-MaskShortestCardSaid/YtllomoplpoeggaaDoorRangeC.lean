/- A range over a function whose iterator keeps its state in cells of its own (strings.SplitSeq): the law for the caller. lo .. hi: the iterator's own blocks. -/
import Derived.RangeFuncNested
import Derived.RangeFuncBound
import Derived.RangeFuncCalls
import Derived.RangeFuncLeaves
import Derived.RangeFuncFrom
namespace Go.Proofs.YtllomoplpoeggaaDoor
open Go.RowKit
/-- Nothing but the blocks from lo to hi, and new ones, differs. -/
structure Mid (lo hi : Nat) (A B : World) : Prop where
  low : Below lo A B
  high : ∀ b, hi ≤ b → b < A.heap.size → B.heap[b]? = A.heap[b]?
/-- The blocks from lo to hi lie as they lay. -/
def Held (lo hi : Nat) (A B : World) : Prop := ∀ b, lo ≤ b → b < hi → B.heap[b]? = A.heap[b]?
theorem Held.refl (lo hi : Nat) (A : World) : Held lo hi A A := fun _ _ _ => rfl
theorem Held.trans {lo hi : Nat} {A B C : World} (h : Held lo hi A B) (k : Held lo hi B C) : Held lo hi A C := fun b h1 h2 => (k b h1 h2).trans (h b h1 h2)
theorem Held.put {lo hi l : Nat} (A : World) (o : Obj) (h : hi ≤ l) : Held lo hi A (A.putObj l o) := fun b _ h2 => World.putObj_heap_other (by omega)
theorem below_put {lo l : Nat} (A : World) (o : Obj) (h : lo ≤ l) (hl : l < A.heap.size) : Below lo A (A.putObj l o) :=
  (Below.refl lo A).grown (grownBy_putObj' A l o) (by omega) (fun k e => by cases e; exact h)
/-- What an iterator promises to whoever ranges over it. -/
def SeqC {α : Type} (F : Fence) (n : Nat) (P : Program) (g : Nat) (lb : Array Value) (enc : α → Value) (G : α → Prop) (lo hi : Nat) (S Sp : List α → Prop) (N : Nat) (w : World) : Prop :=
  ∀ (l : Nat) (J Jx : List α → World → Prop) (W : World), Below w.heap.size w W → (∀ pre A B, J pre A → Mid lo hi A B → J pre B) → (∀ pre A B, Jx pre A → Mid lo hi A B → Jx pre B) →
    (∀ pre x A, G x → J pre A → pre.length < N → YieldAt F (n - 1) P l #[enc x] A fun e B =>
      (e = .returned (.bool true) ∧ J (pre ++ [x]) B ∧ Held lo hi A B) ∨ (e = .returned (.bool false) ∧ Jx (pre ++ [x]) B)) →
    J [] W →
    CallsIn F n P g (#[.func (.yield l) #[] #[]] ++ lb) W fun e B => (∃ v, e = .returned v) ∧ ((∃ xs, S xs ∧ J xs B) ∨ (∃ pre, Sp pre ∧ Jx pre B))
variable {F : Fence} {n : Nat} {P : Program}
theorem range_state {α : Type} {g : Operand} {ps : Array Tmp} {assign body : Code} {Q : Exit → Act → World → Prop} {a : Act} {w : World}
    (hro : F.round = none) (h1 : 1 ≤ n) {gf : Nat} {lb : Array Value} (hg : a.eval g = .func (.func gf) #[] lb) (hFg : F.fn gf) (eg : ∀ args w, (callFunc gf args).run P w = .ok (.enter gf args) w)
    {enc : α → Value} {G : α → Prop} {S Sp : List α → Prop} {N lo hi : Nat} (hlh : lo ≤ hi) (hhi : hi ≤ w.heap.size) (hseq : SeqC F (n - 1) P gf lb enc G lo hi S Sp N w) (hps : ps.size = 1)
    (I : List α → World → Prop) (Ix : Code → List α → World → Prop) (hI : ∀ pre A B, I pre A → Below lo A B → I pre B) (hIx : ∀ c pre A B, Ix c pre A → Below lo A B → Ix c pre B) (h0 : I [] w) (a₁ : α → Act)
    (hassign : ∀ (l : Nat) (x : α) (W : World) (K : Act → World → Prop), K (a₁ x) W →
      assign.wpIn (F.inRound l) (n - 1 - 1) P (Exit.then K (fun _ _ _ => False)) { tmps := (ps.zip #[enc x]).foldl (fun t (p, v) => t.setIfInBounds p v) a.tmps, defers := [] } W)
    (hbody : ∀ (l : Nat) (pre : List α) (x : α) (W : World), G x → I pre W → hi ≤ W.heap.size → pre.length < N → body.wpIn (F.inRound l) (n - 1 - 1) P (ownPostK (Held lo hi) I Ix (pre ++ [x]) W) (a₁ x) W)
    (hdone : ∀ (D : Nat) (xs : List α) (W : World), w.heap.size ≤ D → S xs → I xs W → W.heap[D]? = some (.deferred (some [])) → Q .normal { a with defers := { target := .collected D, args := #[] } :: a.defers } W)
    (hstop : ∀ (D : Nat) (c : Code) (pre : List α) (W : World), w.heap.size ≤ D → Sp pre → Ix c pre W → W.heap[D]? = some (.deferred (some [])) → c.wpIn F n P Q { a with defers := { target := .collected D, args := #[] } :: a.defers } W) :
    (Code.rangeFunc g ps assign body).wpIn F n P Q a w := by
  refine wpIn_rangeFunc fun fn hfn => ?_
  rw [hro]
  generalize hk : w.heap.size = k at *
  let rec' : LoopState → Option Code → Loop := fun st pe => { state := st, pending := pe, fn, tmps := a.tmps, params := ps, assign, body, defers := k }
  obtain ⟨r, hr⟩ : ∃ r, r = rec' := ⟨_, rfl⟩
  have e1 := World.alloc_heap_new w (.deferred (some []))
  have e2 := World.alloc_heap_new (w.alloc (.deferred (some []))) (.loop (r .ready none))
  have e3 := Below.heap_alloc (w.alloc (.deferred (some []))) (.loop (r .ready none)) k (by simp; omega)
  have hB : Below k w ((w.alloc (.deferred (some []))).alloc (.loop (r .ready none))) := ((Below.refl k w).alloc (by omega) _).alloc (by simp; omega) _
  have hrun := run_enterLoop_outer (P := P) (w := w) fn a.tmps ps assign body
  rw [World.size_alloc, hk] at e2
  rw [hk] at e1 hrun
  have e4 : ((w.alloc (.deferred (some []))).alloc (.loop (r .ready none))).heap[k]? = some (.deferred (some [])) := e3.trans e1
  have hrun' : (Instr.enterLoop fn a.tmps ps assign body none).run P w = .ok (k + 1, [{ target := .collected k, args := #[] }]) ((w.alloc (.deferred (some []))).alloc (.loop (r .ready none))) := by rw [hr]; exact hrun
  generalize (w.alloc (.deferred (some []))).alloc (.loop (r .ready none)) = W1 at *
  refine ⟨k + 1, _, W1, { target := .fn (.func gf) lb, args := #[.func (.yield (k + 1)) #[] #[]] }, W1, gf, #[.func (.yield (k + 1)) #[] #[]] ++ lb, W1, hrun', ?_, ?_, ?_, fun _ => h1, ?_⟩
  · simp only [resolve, hg]
    simp [go_sem]
  · intro f' hf'
    simp [Target.leads] at hf'
    subst hf'
    exact hFg
  · simp [invoke, go_sem, eg]
  refine (hseq (k + 1) (fun pre W => I pre W ∧ W.heap[k + 1]? = some (.loop (r .ready none)) ∧ W.heap[k]? = some (.deferred (some [])))
    (fun pre W => ∃ c, Ix c pre W ∧ W.heap[k + 1]? = some (.loop (r .done (some c))) ∧ W.heap[k]? = some (.deferred (some []))) W1 (by rw [hk]; exact hB) ?_ ?_ ?_ ⟨hI [] w W1 h0 (hB.mono (by omega)), e2, e4⟩).mono ?_
  · rintro pre A B ⟨a1, a2, a3⟩ hm
    exact ⟨hI pre A B a1 hm.low, (hm.high (k + 1) (by omega) (Array.getElem?_eq_some_iff.1 a2).1).trans a2, (hm.high k (by omega) (Array.getElem?_eq_some_iff.1 a3).1).trans a3⟩
  · rintro pre A B ⟨c, a1, a2, a3⟩ hm
    exact ⟨c, hIx c pre A B a1 hm.low, (hm.high (k + 1) (by omega) (Array.getElem?_eq_some_iff.1 a2).1).trans a2, (hm.high k (by omega) (Array.getElem?_eq_some_iff.1 a3).1).trans a3⟩
  · rintro pre x A hGx ⟨a1, a2, a3⟩ hlen
    have hlt : k + 1 < A.heap.size := (Array.getElem?_eq_some_iff.1 a2).1
    have hy := run_yield (P := P) (args := #[enc x]) a2 (by rw [hr]; simp [rec', hps])
    have hb := run_beginRound (P := P) a2 (by rw [hr])
    have p1 : (A.putObj (k + 1) (.loop { r .ready none with state := .busy })).heap[k + 1]? = some (.loop { r .ready none with state := .busy }) := World.putObj_heap_same hlt
    have p2 : (A.putObj (k + 1) (.loop { r .ready none with state := .busy })).heap[k]? = some (.deferred (some [])) := (World.putObj_heap_other (by omega)).trans a3
    have p3 : I pre (A.putObj (k + 1) (.loop { r .ready none with state := .busy })) := hI pre A _ a1 (below_put A _ (by omega) hlt)
    have p4 : Held lo hi A (A.putObj (k + 1) (.loop { r .ready none with state := .busy })) := Held.put A _ (by omega)
    have p5 : hi ≤ (A.putObj (k + 1) (.loop { r .ready none with state := .busy })).heap.size := by
      have := (Array.getElem?_eq_some_iff.1 p1).1
      omega
    have q1 : ({ r .ready none with state := .busy } : Loop) = r .busy none := by rw [hr]
    rw [q1] at hb p1 p2 p3 p4 p5
    generalize A.putObj (k + 1) (.loop (r .busy none)) = A1 at *
    have q2 : ∀ (jump : Option Code), ({ r .busy none with state := (if jump.isNone then .ready else .done), pending := jump } : Loop) = r (if jump.isNone then .ready else .done) jump := fun jump => by rw [hr]
    have fin : ∀ (jump : Option Code) (C : World), KeepsOthers A1 C → (Instr.endRound (k + 1) jump).run P C = .ok (.bool jump.isNone) (C.putObj (k + 1) (.loop (r (if jump.isNone then .ready else .done) jump))) ∧ k + 1 < C.heap.size ∧
        (C.putObj (k + 1) (.loop (r (if jump.isNone then .ready else .done) jump))).heap[k + 1]? = some (.loop (r (if jump.isNone then .ready else .done) jump)) ∧
        (C.putObj (k + 1) (.loop (r (if jump.isNone then .ready else .done) jump))).heap[k]? = some (.deferred (some [])) := fun jump C hC => by
      have c1 := hC.same _ _ p1 rfl
      have c2 := hC.same _ _ p2 rfl
      have c3 := (Array.getElem?_eq_some_iff.1 c1).1
      have c4 := run_endRound (P := P) jump c1
      refine ⟨?_, c3, World.putObj_heap_same c3, (World.putObj_heap_other (by omega)).trans c2⟩
      rw [← q2 jump]
      exact c4
    have hy' : (Instr.yield (k + 1) #[enc x]).run P A = .ok (.round (k + 1) fn ((ps.zip #[enc x]).foldl (fun t (p, v) => t.setIfInBounds p v) a.tmps) assign body) A := by
      rw [hy, hr]
    refine ⟨fn, _, assign, body, hy', roundIn_of_wpIn hfn (hassign (k + 1) x A _ ⟨A1, hb, ?_⟩)⟩
    refine wpIn_mono (hbody (k + 1) pre x A1 hGx p3 p5 hlen) ?_
    rintro e a3' C hp
    cases e with
    | normal =>
      obtain ⟨b1, b2, b3⟩ := hp
      obtain ⟨f1, f2, f3, f4⟩ := fin none C b1
      exact ⟨_, _, f1, .inl ⟨rfl, ⟨hI _ C _ b3 (below_put C _ (by omega) f2), f3, f4⟩, (p4.trans b2).trans (Held.put C _ (by omega))⟩⟩
    | ret =>
      obtain ⟨b1, b3⟩ := hp
      obtain ⟨f1, f2, f3, f4⟩ := fin (some .ret) C b1
      exact ⟨_, _, f1, .inr ⟨rfl, .ret, hIx _ _ C _ b3 (below_put C _ (by omega) f2), f3, f4⟩⟩
    | exit id =>
      obtain ⟨b1, b3⟩ := hp
      obtain ⟨f1, f2, f3, f4⟩ := fin (some (.exit id)) C b1
      exact ⟨_, _, f1, .inr ⟨rfl, .exit id, hIx _ _ C _ b3 (below_put C _ (by omega) f2), f3, f4⟩⟩
    | goto t =>
      obtain ⟨b1, b3⟩ := hp
      obtain ⟨f1, f2, f3, f4⟩ := fin (some (.goto t)) C b1
      exact ⟨_, _, f1, .inr ⟨rfl, .goto t, hIx _ _ C _ b3 (below_put C _ (by omega) f2), f3, f4⟩⟩
    | panic ch => exact hp.elim
    | outgrown => exact hp.elim
  · rintro e B ⟨⟨v, rfl⟩, (⟨xs, s1, s2, s3, s4⟩ | ⟨pre, s1, c, s2, s3, s4⟩)⟩
    · have hlt := (Array.getElem?_eq_some_iff.1 s3).1
      have hend := run_endLoop (P := P) s3 (by rw [hr]; simp [rec'])
      exact ⟨none, _, by rw [hend, hr], hdone k xs _ (Nat.le_refl _) s1 (hI _ B _ s2 (below_put B _ (by omega) hlt)) ((World.putObj_heap_other (by omega)).trans s4)⟩
    · have hlt := (Array.getElem?_eq_some_iff.1 s3).1
      have hend := run_endLoop (P := P) s3 (by rw [hr]; simp [rec'])
      exact ⟨some c, _, by rw [hend, hr], hstop k c pre _ (Nat.le_refl _) s1 (hIx _ _ B _ s2 (below_put B _ (by omega) hlt)) ((World.putObj_heap_other (by omega)).trans s4)⟩
end Go.Proofs.YtllomoplpoeggaaDoor
