import Derived.Deep.RegionHeld
import Derived.Lib.Hide
import Derived.Lib.BufferRead
import Derived.Lib.SmallJoins
import Derived.Test.YtollifnnpihfdaaGreatDoorProg
import Derived.WalkSpells
import Derived.BigQuiet
import Derived.Deep.RegionLaw
import Derived.Deep.DeepCutAuto
import Derived.Deep.CutBlock
set_option maxRecDepth 100000
set_option maxHeartbeats 64000000
set_option linter.all false
namespace Go
theorem RowKit.Hid.o {p : Prop} (h : RowKit.Hid p) : p := h
theorem RowKit.Hd {p : Prop} (h : p) : RowKit.Hid p := h
theorem Shut.o {p : Prop} (h : Shut p) : p := h
end Go
namespace Go.Proofs.YtollifnnpihfdaaGreatDoor
open Go
theorem gs {p : Prop} (h : p := by go_simp; try (with_reducible rfl)) : p := h
theorem gr {p : Prop} (h : p := by go_simp; first | (with_reducible rfl) | (rw [if_neg (by first | omega | (simp; omega))])) : p := h
theorem tk {P : Program} {ops : Array Oper} {Q : Exit → Act → World → Prop} {md : Region.Mode} {S : World → Prop} {oi : Oper} {fuel : Nat} {listed : Array Bool} {a : Act} {w : World} (hS : S w) (i : Nat) (v : Value)
    (hy : ∀ w, S w → (execOp a.eval oi).run P w = .ok (.value v) w) (h : wpAnyH P md ops Q S fuel (listed.setIfInBounds i true) (a.put oi.dst v) w)
    (hi : ops[i]? = some oi := by rfl) (hs : Region.noSelect ops = true := by kernel_rfl) (hf : Region.free md ops listed i = true := by kernel_rfl) (hr : (Region.ready md ops listed).contains i = true := by kernel_rfl)
    (hQ : ∀ c a w, Q (.panic c) (a.put oi.dst v) w → Q (.panic c) a w := by intro _ _ _ h; exact h) (hw : Region.wanted oi (yielded ops a.tmps) = true := by kernel_rfl) : wpAnyH P md ops Q S (fuel + 1) listed a w :=
  wpAnyH_take hi hs hf hr hQ (Or.inl ⟨hw, hy⟩) hS h
theorem rdy1 {P : Program} {ops : Array Oper} {Q : Exit → Act → World → Prop} {md : Region.Mode} {S : World → Prop} {oi : Oper} {fuel : Nat} {listed : Array Bool} {a : Act} {w : World} (i : Nat)
    (h : ∀ K' : Act → World → Prop, Shut (∀ a w, S w → (S w → wpAnyH P md ops Q S fuel (listed.setIfInBounds i true) a w) → K' a w) → if Region.wanted oi (yielded ops a.tmps) = true then Oper.wp P oi a w K' Q else K' (a.put oi.dst undef) w)
    (hi : ops[i]? = some oi := by rfl) (hr : Region.ready md ops listed = [i] := by kernel_rfl) : wpAnyH P md ops Q S (fuel + 1) listed a w :=
  wpAnyH_ready hr (by simp) (AllReadyH.cons hi h AllReadyH.nil)
end Go.Proofs.YtollifnnpihfdaaGreatDoor
namespace Go.Proofs.YtollifnnpihfdaaGreatDoor
theorem CE {a b:Bool} (h:a=b):Ending.returned (.bool a)= .returned (.bool b):=by rw [h]
def okc (c:UInt8):Bool:=decide (33≤c.toNat) && decide (c.toNat≤126) && decide (c.toNat≠34)
def NI (l:List UInt8):Bool:=l.all okc
theorem rH (s:ByteArray) (k:Nat) (h:k < s.size):s.data.toList.take (k+1)=s.data.toList.take k ++ [s[k]]:=by
 rw [List.take_succ_eq_append_getElem (by simpa using h)];rfl
theorem pM (s:ByteArray) (k:Nat) (h:s.size≤k):s.data.toList.take k=s.data.toList:=
 List.take_of_length_le (by simpa using h)
def Qt (n:Nat):UInt8:=if n < 10 then UInt8.ofNat (48+n) else UInt8.ofNat (87+n)
def R9 (c:UInt8):List UInt8:= [Qt (c.toNat / 16),Qt (c.toNat % 16)]
def Sa (l:List UInt8):List UInt8:=l.flatMap R9
def Jv (l:List UInt8):List UInt8:=if NI l then 34 :: (l ++ [34]) else 120 :: Sa l
def nX (s:ByteArray):ByteArray:=if 640 < s.size then ⟨#[]⟩ else ⟨(Jv s.data.toList).toArray⟩
abbrev bv (c:UInt8):Value:= .int .u8 (c.toNat:Int)
open Go.RowKit
theorem below_drewN {B:Nat} {a w:World} (h:Below B a w) (n:Nat):Below B a (w.drewN n):=⟨h.os,h.tape,h.output,h.size,h.block⟩
theorem aa {a b c:World} (h:Below a.heap.size a b) (k:Below b.heap.size b c):Below a.heap.size a c:=h.trans (k.mono h.size)
def yO (w:World) (g:Nat) (cs:Array Value):Prop:=∃ tt fr,w.heap[g]? =some (.cells cs tt fr)
theorem yO.lt {w:World} {g:Nat} {cs:Array Value} (h:yO w g cs):g < w.heap.size:=by
 obtain ⟨tt,fr,h⟩:=h;rcases Nat.lt_or_ge g w.heap.size with hlt | hge
 · exact hlt
 · rw [Array.getElem?_eq_none hge] at h;cases h
theorem yO.cell {w:World} {g:Nat} {cs:Array Value} (h:yO w g cs) (i:Nat):w.cell? ⟨g,i,none⟩=cs[i]? :=by
 obtain ⟨tt,fr,h⟩:=h;exact cell_of_row w g i cs tt fr h
theorem yO.below {B:Nat} {w w' :World} {g:Nat} {cs:Array Value} (h:yO w g cs) (hb:Below B w w') (hB:w.heap.size≤B):yO w' g cs:=by
 have hlt:=h.lt;obtain ⟨tt,fr,h⟩:=h;exact ⟨tt,fr,(hb.block g (by omega)).trans h⟩
def Blk (w:World) (g:Nat) (t:TypeId) (cs:Array Value):Prop:=w.heap[g]? =some (.cells cs t (0,0))
theorem Blk.lt {w:World} {g:Nat} {t:TypeId} {cs:Array Value} (h:Blk w g t cs):g < w.heap.size:=(Array.getElem?_eq_some_iff.1 h).1
theorem Blk.new (w:World) (cs:Array Value) (t:TypeId):Blk (w.alloc (.cells cs t)) w.heap.size t cs:=heap_alloc_new w _
theorem Blk.cell {w:World} {g:Nat} {t:TypeId} {cs:Array Value} (h:Blk w g t cs) (i:Nat):w.cell? ⟨g,i,none⟩=cs[i]? :=cell_of_row w g i cs t (0,0) h
theorem Blk.free {w:World} {g:Nat} {t:TypeId} {cs:Array Value} (h:Blk w g t cs) (i:Nat):w.frozen? ⟨g,i,none⟩=false:=frozen_of_row w g i cs t h
theorem Blk.keep {w w' :World} {g:Nat} {t:TypeId} {cs:Array Value} (h:Blk w g t cs) {B:Nat} (hb:Below B w w') (hB:g < B):Blk w' g t cs:=(hb.block g hB).trans h
theorem Blk.below {w w' :World} {g:Nat} {t:TypeId} {cs:Array Value} (h:Blk w g t cs) (hb:Below w.heap.size w w'):Blk w' g t cs:=h.keep hb h.lt
theorem Blk.alloc {w:World} {g:Nat} {t:TypeId} {cs:Array Value} (h:Blk w g t cs) (o:Obj):Blk (w.alloc o) g t cs:=h.below ((Below.refl _ _).alloc (Nat.le_refl _) _)
theorem Blk.drewN {w:World} {g:Nat} {t:TypeId} {cs:Array Value} (h:Blk w g t cs) (n:Nat):Blk (w.drewN n) g t cs:=h
theorem Blk.grown {w w' :World} {g:Nat} {t:TypeId} {cs:Array Value} (h:Blk w g t cs) {row:Option Nat} (hg:w.grownBy w' row) (hne:row≠some g):Blk w' g t cs:=(hg.block g h.lt (fun e=>hne e.symm)).trans h
theorem Blk.row {w:World} {g:Nat} {t:TypeId} {cs:Array Value} (h:Blk w g t cs) (ds:Array Value):Blk (w.setRow g ds) g t ds:=setRow_heap w g cs ds t _ h
theorem Blk.aS {w:World} {g k:Nat} {t:TypeId} {cs:Array Value} (h:Blk w g t cs) (ds:Array Value) (hne:g≠k):Blk (w.setRow k ds) g t cs:=(setRow_other w k g ds hne).trans h
theorem Blk.put {w:World} {g:Nat} {t:TypeId} {cs:Array Value} (h:Blk w g t cs) (i:Nat) (v:Value):Blk (w.setCell ⟨g,i,none⟩ v) g t (cs.setIfInBounds i v):=heap_setCell_same w g i cs t v h
theorem Blk.af {w:World} {g:Nat} {t:TypeId} {cs:Array Value} (h:Blk w g t cs) {p:Addr} (v:Value) (hne:g≠p.block):Blk (w.setCell p v) g t cs:=(heap_setCell_other w p g v hne).trans h
theorem ak {B g:Nat} {a w:World} (h:Below B a w) (hg:B≤g) (cs:Array Value):Below B a (w.setRow g cs):=
 ⟨h.os,h.tape,h.output,by rw [setRow_size];exact h.size,fun i hi=>(setRow_other w g i cs (by omega)).trans (h.block i hi)⟩
theorem boxed {w w1:World} {o:Obj} (hb:Below (w.alloc o).heap.size (w.alloc o) w1):Below (w.heap.size+1) (w.alloc o) w1:=by simpa using hb
theorem unbox {w w1:World} {o:Obj} (hb:Below (w.heap.size+1) (w.alloc o) w1):Below w.heap.size w w1:=((Below.refl _ _).alloc (Nat.le_refl _) _).trans (hb.mono (by omega))
theorem Fp {w w1:World} {o:Obj} (hb:Below (w.alloc o).heap.size (w.alloc o) w1):Below w.heap.size w w1:=unbox (boxed hb)
theorem ae {P:Program} {ops:Array Oper} {rest:List Oper} {o:Oper} {a:Act} {w:World} {Q:Exit→Act→World→Prop} (hgd:o.guard=none) (ty:TypeId) (x y:Operand) (ho:o.op= .store ty x y)
  {g:Nat} {t:TypeId} {old:Array Value} (hg:Blk w g t old) (cells:Array Value) (hx:a.eval x= .pointer (some ⟨g,0,none⟩)) (hy:a.eval y= .agg cells)
  (hi:(P.info? ty).map (·.size)=some cells.size) (hold:old.size=cells.size) (h1:cells.all (·.oneCell')=true)
  (h:wpList P ops Q rest (a.put o.dst undef) (w.setRow g cells)):wpList P ops Q (o :: rest) a w:=
 wpList_store_row hgd ty x y ho g cells hx hy t old hg hi hold h1 h
theorem aP {P:Program} {ops:Array Oper} {rest:List Oper} {o:Oper} {a:Act} {w:World} {Q:Exit→Act→World→Prop} (hgd:o.guard=none) (ty:TypeId) (x:Operand) (ho:o.op= .load ty x)
  {g:Nat} {t:TypeId} {cs:Array Value} (hg:Blk w g t cs) (hx:a.eval x= .pointer (some ⟨g,0,none⟩)) (d:TypeDesc)
  (hu:P.underlying ty=some d) (hd:(match d with | .struct _ | .array _ _=>true | _=>false)=true) (hi:(P.info? ty).map (·.size)=some cs.size)
  (h:wpList P ops Q rest (a.put o.dst (.agg cs)) w):wpList P ops Q (o :: rest) a w:=
 wpList_load_row hgd ty x ho g hx t cs (0,0) d hg hu hd hi h
def aB (w:World) (base g:Nat) (b:Int):Prop:=base≤g∧∃ (A:Option Addr) (n c:Nat) (a:Int),w.heap[g]? =some (.cells #[.slice A n c, .int .i64 a] 111 (0,0))∧0≤a∧a≤b∧(n:Int)≤9223372036854775807∧
 ∀ k,k < n→∃ (ad:Addr) (z:Int),A=some ad∧ad.block < base∧w.cell? (ad.add k)=some (.int .i64 z)∧ -9223372036854775808≤z∧z≤9223372036854775807
theorem aW {w:World} {base g:Nat} {b:Int} (h:aB w base g b):g < w.heap.size:=by
 obtain ⟨_,A,n,c,a,hg,_⟩:=h;exact (Array.getElem?_eq_some_iff.1 hg).1
theorem aB.more {w:World} {base g:Nat} {b b' :Int} (h:aB w base g b) (hb:b≤b'):aB w base g b' :=by
 obtain ⟨h0,A,n,c,a,hg,ha,hab,hn,hl⟩:=h;exact ⟨h0,A,n,c,a,hg,ha,by omega,hn,hl⟩
theorem block_add (a:Addr) (n:Nat):(a.add n).block=a.block:=by unfold Addr.add;split <;> rfl
theorem aB.keep {w w' :World} {base g:Nat} {b:Int} (h:aB w base g b) (hg' :w'.heap[g]? =w.heap[g]?) (hk:∀ i,i < base→w'.heap[i]? =w.heap[i]?):aB w' base g b:=by
 obtain ⟨h0,A,n,c,a,hg,ha,hab,hn,hl⟩:=h;refine ⟨h0,A,n,c,a,hg'.trans hg,ha,hab,hn,fun k hk' =>?_⟩;obtain ⟨ad,z,e,hb,hc,hz⟩:=hl k hk';exact ⟨ad,z,e,hb,(World.cell?_of_block (by rw [block_add];exact hk _ hb)).trans hc,hz⟩
theorem aB.below {w w' :World} {base g:Nat} {b:Int} (h:aB w base g b) (hb:Below w.heap.size w w'):aB w' base g b:=
 h.keep (hb.block g (aW h)) fun i hi=>hb.block i (by have:=aW h;have:=h.1;omega)
theorem aB.grown {w w' :World} {base g:Nat} {b:Int} (h:aB w base g b) {row:Option Nat} (hg:w.grownBy w' row) (hr:∀ r,row=some r→base≤r∧r≠g):aB w' base g b:=
 h.keep (hg.block g (aW h) (fun e=>(hr g e.symm).2 rfl)) fun i hi=>hg.block i (by have:=aW h;have:=h.1;omega) (fun e=>by have:=(hr i e.symm).1;omega)
theorem aB.alloc {w:World} {base g:Nat} {b:Int} (h:aB w base g b) (o:Obj):aB (w.alloc o) base g b:=h.below ((Below.refl _ _).alloc (Nat.le_refl _) o)
theorem aB.drew {w:World} {base g:Nat} {b:Int} (h:aB w base g b):aB w.drew base g b:=h
theorem aB.setCell {w:World} {base g:Nat} {b:Int} (h:aB w base g b) {p:Addr} (hp:base≤p.block) (hne:p.block≠g) (u:Value):aB (w.setCell p u) base g b:=
 h.keep (Below.heap_setCell w p u g (Ne.symm hne)) fun i hi=>Below.heap_setCell w p u i (by omega)
theorem nY {a w:World} {row:Option Nat} (h:a.grownBy w row) (n:Nat):a.grownBy (w.drewN n) row:=⟨h.os,h.tape,h.output,h.size,h.block⟩
theorem av {a w:World} {row:Option Nat} (h:a.grownBy w row) (o:Obj):a.grownBy (w.alloc o) row:=
 ⟨h.os,h.tape,h.output,Nat.le_trans h.size (by simp),fun i hi hne=>(Below.heap_alloc w o i (Nat.lt_of_lt_of_le hi h.size)).trans (h.block i hi hne)⟩
theorem ag {a w:World} {g:Nat} (h:a.grownBy w (some g)) {p:Addr} (hp:p.block=g∨a.heap.size≤p.block) (u:Value):a.grownBy (w.setCell p u) (some g):=
 ⟨h.os,h.tape,h.output,by simpa [World.setCell] using h.size,fun i hi hne=>(Below.heap_setCell w p u i (fun e=>by
  rcases hp with hp | hp
  · exact hne (by rw [e,hp])
  · omega)).trans (h.block i hi hne)⟩
theorem bE {a w w' :World} {row:Option Nat} (h:a.grownBy w row) (hb:Below w.heap.size w w'):a.grownBy w' row:=
 ⟨hb.os.trans h.os,hb.tape.trans h.tape,hb.output.trans h.output,Nat.le_trans h.size hb.size,fun i hi hne=>(hb.block i (Nat.lt_of_lt_of_le hi h.size)).trans (h.block i hi hne)⟩
theorem ji {B:Nat} {a w w' :World} {g:Nat} (h:Below B a w) (hg:w.grownBy w' (some g)) (hB:B≤w.heap.size) (hBg:B≤g):Below B a w' :=
 h.grown hg hB fun k hk=>by injection hk with hk;omega
def NJ (w:World) (base g:Nat) (b n:Int) (e:Ending) (w' :World):Prop:=∃ x:Int,e= .returned (.int .i64 x)∧0≤x∧x < n∧aB w' base g (b+1)∧w.grownBy w' (some g)
theorem Gl {w:World} {base g:Nat} {b:Int} (h0:base≤g) {A:Option Addr} {n c:Nat} {a:Int} (hg:w.heap[g]? =some (.cells #[.slice A n c, .int .i64 a] 111 (0,0))) (ha:0≤a) (hab:a≤b) (hn:(n:Int)≤9223372036854775807)
  (hl:∀ k,k < n→∃ (ad:Addr) (z:Int),A=some ad∧ad.block < base∧w.cell? (ad.add k)=some (.int .i64 z)∧ -9223372036854775808≤z∧z≤9223372036854775807):
  aB (w.setCell ⟨g,1,none⟩ (.int .i64 (a+1))) base g (b+1)∧w.grownBy (w.setCell ⟨g,1,none⟩ (.int .i64 (a+1))) (some g):=by
 refine ⟨⟨h0,A,n,c,a+1,heap_setCell_same w g 1 #[.slice A n c, .int .i64 a] _ (.int .i64 (a+1)) hg,by omega,by omega,hn,fun k hk=>?_⟩,ag (World.grownBy.refl w _) (.inl rfl) _⟩;obtain ⟨ad,z,e,hb,hc,hz⟩:=hl k hk;exact ⟨ad,z,e,hb,(World.cell?_of_block (by rw [block_add];exact Below.heap_setCell w ⟨g,1,none⟩ _ _ (by show ad.block≠g;omega))).trans hc,hz⟩
theorem Gm (z n:Int) (hn:1≤n): -n < z.tmod n∧z.tmod n < n:=by
 have h1:=Int.tmod_lt_of_pos z (show 0 < n by omega);have h2: -n < z.tmod n:=by
  have:=Int.tmod_lt_of_pos (-z) (show 0 < n by omega);rw [Int.neg_tmod] at this;omega
 exact ⟨h2,h1⟩
theorem bG (w:World) (base g:Nat) (b n:Int) (h:aB w base g b) (hb:b≤1000000000000000) (hn1:1≤n) (hn2:n≤1000000000000000):
   Calls Tryz.prog 14 #[.pointer (some ⟨g,0,none⟩), .int .i64 n] w (NJ w base g b n):=by
 obtain ⟨h0,A,ln,c,a,hg,ha,hab,hln,hl⟩:=h;have MX:=Hd (Gl h0 hg ha hab hln hl);have q0:w.cell? ⟨g,0,none⟩=some (.slice A ln c):=cell_of_row w g 0 _ _ (0,0) hg;have q1:w.cell? ⟨g,1,none⟩=some (.int .i64 a):=cell_of_row w g 1 _ _ (0,0) hg;have qf:w.frozen? ⟨g,1,none⟩=false:=frozen_of_row w g 1 _ _ hg;have HG:=Hd (show (w.setCell ⟨g,1,none⟩ (.int .i64 (a+1))).heap[g]? =some (.cells #[.slice A ln c, .int .i64 (a+1)] 111 (0,0)) from heap_setCell_same w g 1 #[.slice A ln c, .int .i64 a] _ (.int .i64 (a+1)) hg);have hkb:a+1≤1000000000000001:=by omega
 have HL:=Hd hl;have HLN:=Hd hln;clear hg hl hln;by_cases hlt:a < (ln:Int)
 · obtain ⟨ad,z,hA,xJ,hc,hz0,hz1⟩:=HL.o a.toNat (by omega);subst hA;have HC:=Hd (show (w.setCell ⟨g,1,none⟩ (.int .i64 (a+1))).cell? (ad.add a.toNat)=some (.int .i64 z) from
    (World.cell?_of_block (by rw [block_add];exact Below.heap_setCell w ⟨g,1,none⟩ _ _ (by show ad.block≠g;omega))).trans hc)
   clear hc HL;have d1:decide (a+1≤(ln:Int))=true:=(by simp;omega);have tb:=Hd (Gm z n hn1);go_in;go_wp2_with fail;clear q0 q1 qf;generalize w.setCell ⟨g,1,none⟩ (.int .i64 (a+1))=w1 at *;have s0:w1.cell? ⟨g,0,none⟩=some (.slice (some ad) ln c):=cell_of_row w1 g 0 _ _ (0,0) HG.o;have s1:w1.cell? ⟨g,1,none⟩=some (.int .i64 (a+1)):=cell_of_row w1 g 1 _ _ (0,0) HG.o;have s2:=HC.o;go_quiet (fail);have w1' :IntKind.i64.wrap (a+1 - 1)=a:=(by rw [show a+1 - 1=a by omega];exact IntWalk.i64_in _ (by omega));go_wp2_with fail;go_quiet (fail);clear w1' s0 s1 s2 d1;obtain ⟨t1,t2⟩:=tb.o;go_wp2_with fail;all_goals
    go_ret;exact ⟨_,rfl,by omega,by omega,MX.o.1,nY MX.o.2 _⟩
 · have d1:decide (a+1≤(ln:Int))=false:=(by simp;omega);have d2:(0:Int)≤(a+1) * 7:=(by omega);have tb1:0≤((a+1) * 7) % n:=Int.emod_nonneg _ (by omega);have tb2:((a+1) * 7) % n < n:=Int.emod_lt_of_pos _ (by omega);clear HL;go_in;go_wp2_with fail;clear q0 q1 qf;generalize w.setCell ⟨g,1,none⟩ (.int .i64 (a+1))=w1 at *;have s0:w1.cell? ⟨g,0,none⟩=some (.slice A ln c):=cell_of_row w1 g 0 _ _ (0,0) HG.o;have s1:w1.cell? ⟨g,1,none⟩=some (.int .i64 (a+1)):=cell_of_row w1 g 1 _ _ (0,0) HG.o;go_quiet (fail);clear s0 s1 d1;go_wp2_with fail;go_ret;exact ⟨_,rfl,tb1,tb2,MX.o.1,nY MX.o.2 _⟩
theorem Gn (w:World) (A:Option Addr) (n c:Nat) (hn:(n:Int)≤9223372036854775807)
  (hl:∀ k,k < n→∃ (ad:Addr) (z:Int),A=some ad∧ad.block < w.heap.size∧w.cell? (ad.add k)=some (.int .i64 z)∧ -9223372036854775808≤z∧z≤9223372036854775807):
  Calls Tryz.prog 10 #[.slice A n c] w fun e w' =>e= .returned (.pointer (some ⟨w.heap.size,0,none⟩))∧aB w' w.heap.size w.heap.size 0∧Below w.heap.size w w' :=by
 have HL:=Hd hl;have HN:=Hd hn;clear hl hn;go_in
 go_wp2
 go_ret;refine ⟨rfl,⟨Nat.le_refl _,A,n,c,0,heap_alloc_new w _,by omega,by omega,HN.o,fun k hk=>?_⟩,(Below.refl _ _).alloc (Nat.le_refl _) _⟩;obtain ⟨ad,z,e,hb,hc,hz⟩:=HL.o k hk;exact ⟨ad,z,e,hb,(World.cell?_of_block (by rw [block_add];exact Below.heap_alloc w _ _ hb)).trans hc,hz⟩
def Fq (cs:Array Value) (m:Nat):Bool:=cs.toList.all fun | .string x=>decide (x.size≤m) | _=>false
def intsIn (cs:Array Value) (lo hi:Int):Bool:=cs.toList.all fun | .int .i64 x=>decide (lo≤x) && decide (x≤hi) | _=>false
theorem yP {cs:Array Value} {m:Nat} (h:Fq cs m=true) (k:Nat) (hk:k < cs.size):∃ x:ByteArray,cs[k]? =some (.string x)∧x.size≤m:=by
 have hm:cs[k]∈cs.toList:=Array.mem_toList_iff.2 (Array.getElem_mem hk);have:=List.all_eq_true.1 h _ hm;split at this
 · rename_i x e;exact ⟨x,by rw [Array.getElem?_eq_getElem hk,e],by simpa using this⟩
 · cases this
theorem yQ {cs:Array Value} {lo hi:Int} (h:intsIn cs lo hi=true) (k:Nat) (hk:k < cs.size):∃ x:Int,cs[k]? =some (.int .i64 x)∧lo≤x∧x≤hi:=by
 have hm:cs[k]∈cs.toList:=Array.mem_toList_iff.2 (Array.getElem_mem hk);have:=List.all_eq_true.1 h _ hm;split at this
 · rename_i x e;simp at this;exact ⟨x,by rw [Array.getElem?_eq_getElem hk,e],this.1,this.2⟩
 · cases this
def CQ (w:World) (base g:Nat) (b:Int) (m:Nat) (e:Ending) (w' :World):Prop:=∃ x:ByteArray,e= .returned (.string x)∧x.size≤m∧aB w' base g b∧w.grownBy w' (some g)
def Jw (w:World) (base g:Nat) (b lo hi:Int) (e:Ending) (w' :World):Prop:=∃ x:Int,e= .returned (.int .i64 x)∧lo≤x∧x≤hi∧aB w' base g b∧w.grownBy w' (some g)
theorem rJ {w w' :World} {g B:Nat} {cs:Array Value} {t:TypeId} {fr:Nat×Nat} (hg:w.grownBy w' (some g)) (hB:w.heap[B]? =some (.cells cs t fr)) (hne:B≠g) (k:Nat):w'.cell? ⟨B,k,none⟩=cs[k]? :=
 cell_of_row w' B k cs t fr ((hg.block B (Array.getElem?_eq_some_iff.1 hB).1 (fun e=>hne (by injection e))).trans hB)
theorem aA (w:World) (base g:Nat) (b lo hi:Int) (h:aB w base g b) (hb:b≤1000000000000000) (h1:lo≤hi) (h2: -1000000≤lo) (h3:hi≤1000000):
  Calls Tryz.prog 38 #[.pointer (some ⟨g,0,none⟩), .int .i64 lo, .int .i64 hi] w (Jw w base g (b+1) lo hi):=by
 have H:=Hd h;have HB:=Hd hb;clear h hb;go_in;go_wp2_with fail;refine (bG _ base g b _ H.o HB.o (by omega) (by omega)).mono ?_;rintro e w1 ⟨x,rfl,hx0,hx1,hs,hg⟩;have HS:=Hd hs;clear hs;go_wp2_with fail;go_ret;exact ⟨_,rfl,by omega,by omega,HS.o,hg⟩
theorem fJ (w:World) (base g B:Nat) (b:Int) (n m:Nat) (cs:Array Value) (t:TypeId) (fr:Nat×Nat) (h:aB w base g b) (hb:b≤1000000000000000) (hB:w.heap[B]? =some (.cells cs t fr)) (hne:B≠g)
  (hn:cs.size=n) (h1:1≤n) (h2:n≤1000) (hall:Fq cs m=true):
  Calls Tryz.prog 15 #[.pointer (some ⟨g,0,none⟩), .slice (some ⟨B,0,none⟩) n n] w (CQ w base g (b+1) m):=by
 have H:=Hd h;have HB:=Hd hb;have HBB:=Hd hB;have HN:=Hd hn;clear h hb hB hn;go_in;go_wp2_with fail;refine (bG _ base g b _ H.o HB.o (by omega) (by omega)).mono ?_;rintro e w1 ⟨x,rfl,hx0,hx1,hs,hg⟩;have HS:=Hd hs;clear hs;obtain ⟨k,rfl⟩:=Int.eq_ofNat_of_zero_le hx0;have hk:k < n:=by omega
 obtain ⟨y,hy,hym⟩:=yP hall k (by rw [HN.o];exact hk);have hc:=(rJ hg HBB.o hne k).trans hy;clear hy;go_wp2_with fail;go_ret;exact ⟨_,rfl,hym,HS.o,hg⟩
theorem aF (w:World) (base g B:Nat) (b:Int) (n:Nat) (lo hi:Int) (cs:Array Value) (t:TypeId) (fr:Nat×Nat) (h:aB w base g b) (hb:b≤1000000000000000) (hB:w.heap[B]? =some (.cells cs t fr)) (hne:B≠g)
  (hn:cs.size=n) (h1:1≤n) (h2:n≤1000) (hall:intsIn cs lo hi=true):
  Calls Tryz.prog 61 #[.pointer (some ⟨g,0,none⟩), .slice (some ⟨B,0,none⟩) n n] w (Jw w base g (b+1) lo hi):=by
 have H:=Hd h;have HB:=Hd hb;have HBB:=Hd hB;have HN:=Hd hn;clear h hb hB hn;go_in;go_wp2_with fail;refine (bG _ base g b _ H.o HB.o (by omega) (by omega)).mono ?_;rintro e w1 ⟨x,rfl,hx0,hx1,hs,hg⟩;have HS:=Hd hs;clear hs;obtain ⟨k,rfl⟩:=Int.eq_ofNat_of_zero_le hx0;have hk:k < n:=by omega
 obtain ⟨y,hy,hy0,hy1⟩:=yQ hall k (by rw [HN.o];exact hk);have hc:=(rJ hg HBB.o hne k).trans hy;clear hy;go_wp2_with fail;go_ret;exact ⟨_,rfl,hy0,hy1,HS.o,hg⟩
structure El (α:Type) where
 C:α→List Value
 e:TypeId
 sl:TypeId
 sz:Nat
 bs:Nat
 len:∀ a,(C a).length=sz
 one:∀ a,∀ u∈C a,u.oneCell' =true
 pos:0 < sz
 small:bs≤1000
 hu:Tryz.prog.underlying sl=some (.slice e)
 info:∃ (i0:TypeInfo) (z:Value),Tryz.prog.info? e=some i0∧i0.zero=some z∧i0.size=sz∧i0.bytes=bs∧z.cells.size=sz
section
variable {α:Type} {E:El α} {w w' :World} {B B' base lo:Nat} {A:Option Addr} {v:Value} {L M:List α}
theorem El.flat (E:El α) (L:List α):(L.flatMap E.C).length=L.length * E.sz:=by
 induction L with
 | nil=>simp
 | cons a L ih=>rw [List.flatMap_cons,List.length_append,ih,E.len,List.length_cons,Nat.succ_mul];omega
theorem El.fe (E:El α):∀ (L:List α) (k:Nat) (hk:k < L.length) (j:Nat),j < E.sz→(L.flatMap E.C)[k * E.sz+j]? =(E.C (L[k]'hk))[j]?
 | [],k,hk,_,_=>by simp at hk
 | p :: L,0,_,j,hj=>by
  rw [List.flatMap_cons,List.getElem?_append_left (by rw [E.len];omega)];simp
 | p :: L,k+1,hk,j,hj=>by
  have ih:=E.fe L k (by simp at hk;omega) j hj;have e:(k+1) * E.sz+j=E.sz+(k * E.sz+j):=by rw [Nat.succ_mul];omega
  rw [List.flatMap_cons,e,List.getElem?_append_right (by rw [E.len];omega),E.len,show E.sz+(k * E.sz+j) - E.sz=k * E.sz+j by omega,ih];simp
def AtE (E:El α) (w:World) (B:Nat) (A:Option Addr) (L:List α):Prop:=∀ k (hk:k < L.length),∃ ad:Addr,A=some ad∧ad.block < B∧∀ j,j < E.sz→w.cell? ((ad.add (k * E.sz)).add j)=(E.C (L[k]'hk))[j]?
theorem aj (a:Addr) (n:Nat):(a.add n).block=a.block:=by unfold Addr.add;split <;> rfl
theorem AtE.keep (h:AtE E w B A L) (hb:Below B' w w') (hB:B≤B'):AtE E w' B A L:=fun k hk=>by
 obtain ⟨ad,e,hl,hc⟩:=h k hk;exact ⟨ad,e,hl,fun j hj=>(hb.cell (by rw [aj,aj];omega)).trans (hc j hj)⟩
theorem AtE.more (h:AtE E w B A L) (hB:B≤B'):AtE E w B' A L:=fun k hk=>by
 obtain ⟨ad,e,hl,hc⟩:=h k hk;exact ⟨ad,e,by omega,hc⟩
theorem AtE.below (h:AtE E w w.heap.size A L) (hb:Below w.heap.size w w'):AtE E w' w'.heap.size A L:=(h.keep hb (Nat.le_refl _)).more hb.size
theorem AtE.nil:AtE E w B A []:=fun k hk=>by simp at hk
def ax (E:El α) (w:World) (base:Nat) (v:Value) (L:List α):Prop:=w.ownsRow base E.e E.sz v L.length (L.flatMap E.C)
theorem ax.nil (w:World) (base:Nat):ax E w base (.slice none 0 0) []:=World.ownsRow_nil _ _ _ _
theorem ax.alloc (h:ax E w base v L) (o:Obj):ax E (w.alloc o) base v L:=World.ownsRow.alloc h o
theorem ax.ge (h:ax E w base v L):∀ r,v.ownBlock=some r→base≤r:=fun r hr=>(World.ownsRow.lt h r hr).1
theorem ax.lt (h:ax E w base v L):∀ r,v.ownBlock=some r→r < w.heap.size:=fun r hr=>(World.ownsRow.lt h r hr).2
theorem ax.below (h:ax E w base v L) (hb:Below w.heap.size w w'):ax E w' base v L:=
 World.ownsRow.kept (row:=none) h ⟨hb.os,hb.tape,hb.output,hb.size,fun i hi _=>hb.block i hi⟩ (by
  cases hv:v.ownBlock with
  | none=>exact .inl rfl
  | some k=>exact .inr (by simp))
theorem ax.far (h:ax E w base v L) {row:Option Nat} (hg:w.grownBy w' row) (hne:∀ k,v.ownBlock=some k→row≠some k):ax E w' base v L:=
 World.ownsRow.kept h hg (by
  cases hv:v.ownBlock with
  | none=>exact .inl rfl
  | some k=>right;intro e;exact hne k hv e.symm)
theorem ax.bD (h:ax E w base v L) {g i:Nat} (hne:v.ownBlock≠some g) (u:Value):ax E (w.setCell ⟨g,i,none⟩ u) base v L:=
 h.far (row:=some g) ⟨rfl,rfl,rfl,by simp [World.setCell],fun k _ hk=>Below.heap_setCell _ _ _ _ (fun e=>hk (by rw [e]))⟩ (fun k hk e=>hne (by rw [hk];exact e.symm))
theorem ax.mE (h:ax E w base v L) {g:Nat} (hne:v.ownBlock≠some g) (cs:Array Value):ax E (w.setRow g cs) base v L:=
 h.far (row:=some g) ⟨rfl,rfl,rfl,by rw [setRow_size];exact Nat.le_refl _,fun i _ hne=>setRow_other _ g i cs (fun e=>hne (by rw [e]))⟩ (fun k hk e=>hne (by rw [hk];exact e.symm))
theorem ax.low (h:ax E w lo v L) (hb:base≤lo):ax E w base v L:=Joins.ownsRow_le h hb
theorem pO (g a b:Nat):((⟨g,0,none⟩:Addr).add a).add b=⟨g,a+b,none⟩:=by
 unfold Addr.add;split
 · split
   · subst_vars;rfl
   · subst_vars;simp
 · split
   · subst_vars;simp
   · simp
theorem bV (g n:Nat):(⟨g,0,none⟩:Addr).add n=⟨g,n,none⟩:=by
 unfold Addr.add;split
 · subst_vars;rfl
 · simp
theorem ax.at (h:ax E w base v L):∃ A c,v= .slice A L.length c∧AtE E w w.heap.size A L:=by
 rcases Joins.ownsRow_forms h with ⟨rfl,h0⟩ | ⟨g,cap,rfl⟩
 · have:L= []:=List.eq_nil_of_length_eq_zero h0;subst this;exact ⟨none,0,rfl,AtE.nil⟩
 · refine ⟨_,cap,rfl,fun k hk=>⟨_,rfl,(World.ownsRow.lt h g rfl).2,fun j hj=>?_⟩⟩;have hf:=E.fe L k hk j hj;have hs:j < (E.C (L[k]'hk)).length:=(by rw [E.len];exact hj);rw [List.getElem?_eq_getElem hs] at hf ⊢;have hc:=World.ownsRow.cells h (g:=g) rfl (k * E.sz+j) _ hf;rw [bV] at hc;rw [pO];exact hc
theorem jT (E:El α) (w:World) (base:Nat) (ty:TypeId) (v:Value) (L:List α) (B:Nat) (A:Option Addr) (n c:Nat) (M:List α) (hn:n=M.length) (hown:ax E w base v L) (hr:AtE E w B A M) (hlen:L.length+M.length≤1000000) (hbase:base≤w.heap.size):
   ∃ v' w',(Builtin.append_ #[E.sl,E.sl] ty #[v, .slice A n c]).run Tryz.prog w= .ok v' w' ∧ax E w' base v' (L ++ M)∧w.grownBy w' v.ownBlock∧(v'.ownBlock=v.ownBlock∨v'.ownBlock=some w.heap.size):=by
 subst hn;have h:=hown;obtain ⟨i0,z,hi,hz,hs,hb,hzs⟩:=E.info;rcases A with _ | ad
 · have hM:M= []:=by
     cases M with
     | nil=>rfl
     | cons s r=>obtain ⟨ad,e,_⟩:=hr 0 (by simp);cases e
   subst hM;refine ⟨v,w,?_,by simpa using hown,World.grownBy.refl w _, .inl rfl⟩;rcases h.2 with ⟨rfl,_⟩ | ⟨g,cap,cur,rfl,_,_,hnc,_⟩
   · simp [Builtin.append_,run_underlying E.hu,sizeOf,typeInfo,hi,Builtin.lenOf,Builtin.firstCells]
   · simp [Builtin.append_,run_underlying E.hu,sizeOf,typeInfo,hi,Builtin.lenOf,Builtin.firstCells,hnc,storeCells]
 · obtain ⟨v',w',hrun,h2,h3,_,h5⟩:=run_append_own_at (P:=Tryz.prog) w base E.sl ty E.e i0 z E.sz E.bs E.hu hi hz hs hb hzs E.pos v L.length _ h ad M.length c (M.flatMap E.C) (E.flat M) (fun j u hu=>by
     have hj:j < M.length * E.sz:=(by have:=(List.getElem?_eq_some_iff.1 hu).1;rwa [E.flat] at this);have hk:j / E.sz < M.length:=Nat.div_lt_of_lt_mul (by rw [Nat.mul_comm];exact hj);have e:j=j / E.sz * E.sz+j % E.sz:=(by rw [Nat.mul_comm];exact (Nat.div_add_mod j E.sz).symm);have hm:j % E.sz < E.sz:=Nat.mod_lt _ E.pos;obtain ⟨ad',e',_,hc⟩:=hr (j / E.sz) hk;cases e';have h2:=hc (j % E.sz) hm;rw [Addr.add_add, ← e] at h2;rw [h2];have h3:=E.fe M (j / E.sz) hk (j % E.sz) hm;rw [← e] at h3;rw [← h3];exact hu) (by
     intro u hu;obtain ⟨t,_,ht⟩:=List.mem_flatMap.1 hu;exact E.one t u ht) (by unfold maxLen;omega) (by
      have h1:(L.length+M.length) * E.bs≤1000000 * 1000:=Nat.mul_le_mul hlen E.small;omega) hbase
   refine ⟨v',w',hrun,?_,h3,h5⟩;show w'.ownsRow base E.e E.sz v' (L ++ M).length ((L ++ M).flatMap E.C);rw [List.length_append,List.flatMap_append];exact h2
theorem aM (E:El α) (w:World) (cs:Array Value) (t:TypeId) (x:α) (h:cs.toList=E.C x) (hB:w.heap.size < B):AtE E (w.alloc (.cells cs t)) B (some ⟨w.heap.size,0,none⟩) [x]:=fun k hk=>by
 have hk0:k=0:=by simpa using hk
 subst hk0;refine ⟨_,rfl,hB,fun j hj=>?_⟩;rw [Nat.zero_mul,pO,(Blk.new w cs t).cell,Nat.zero_add, ← Array.getElem?_toList,h];rfl
theorem ah (E:El α) {ops:Array Oper} {rest:List Oper} {o:Oper} {a:Act} {Q:Exit→Act→World→Prop} (hgd:o.guard=none) (s x:Operand) (ho:o.op= .call { callee:= .builtin .append,args:=#[s,x],argTypes:=#[E.sl,E.sl] })
  (base:Nat) (v:Value) (L:List α) (hs:a.eval s=v) (hown:ax E w base v L) (B:Nat) (A:Option Addr) (n c:Nat) (M:List α) (hx:a.eval x= .slice A n c) (hn:n=M.length) (hr:AtE E w B A M) (hlen:L.length+M.length≤1000000) (hbase:base≤w.heap.size)
  (h:∀ v' w',ax E w' base v' (L ++ M)→w.grownBy w' v.ownBlock→(v'.ownBlock=v.ownBlock∨v'.ownBlock=some w.heap.size)→wpList Tryz.prog ops Q rest (a.put o.dst v') w'):wpList Tryz.prog ops Q (o :: rest) a w:=
 wpList_plain hgd fun K hK=>by
  obtain ⟨v',w',hrun,h2,h3,h4⟩:=jT E w base o.type v L B A n c M hn hown hr hlen hbase;unfold Oper.wp execOp;simp only [ho,resolve,invoke,builtin,Sem.run_bind,Sem.run_pure,Result.andThen_ok,List.map_toArray,List.map_cons,List.map_nil,hs,hx,hrun];exact hK _ _ (h v' w' h2 h3 h4)
theorem aI (E:El α) {ops:Array Oper} {o:Oper} {a:Act} {K:Act→World→Prop} {Q:Exit→Act→World→Prop} {F:Prop} (hgd:o.guard=none) (s x:Operand) (ho:o.op= .call { callee:= .builtin .append,args:=#[s,x],argTypes:=#[E.sl,E.sl] })
  (base:Nat) (v:Value) (L:List α) (hs:a.eval s=v) (hown:ax E w base v L) (B:Nat) (A:Option Addr) (n c:Nat) (M:List α) (hx:a.eval x= .slice A n c) (hn:n=M.length) (hr:AtE E w B A M) (hlen:L.length+M.length≤1000000) (hbase:base≤w.heap.size)
  (h:∀ v' w',ax E w' base v' (L ++ M)→w.grownBy w' v.ownBlock→(v'.ownBlock=v.ownBlock∨v'.ownBlock=some w.heap.size)→K (a.put o.dst v') w'):
  if Region.wanted o (yielded ops a.tmps)=true then Oper.wp Tryz.prog o a w K Q else F:=by
 have hw:Region.wanted o (yielded ops a.tmps)=true:=by simp [Region.wanted,hgd]
 rw [if_pos hw];obtain ⟨v',w',hrun,h2,h3,h4⟩:=jT E w base o.type v L B A n c M hn hown hr hlen hbase;unfold Oper.wp execOp;simp only [ho,resolve,invoke,builtin,Sem.run_bind,Sem.run_pure,Result.andThen_ok,List.map_toArray,List.map_cons,List.map_nil,hs,hx,hrun];exact h v' w' h2 h3 h4
end
structure En where
 nm:ByteArray
 ino:Int
structure Nd where
 ino:Int
 kind:Int
 mode:Int
 uid:Int
 gid:Int
 par:Int
 tg:ByteArray
 es:List En
structure Dv where
 nx:Int
 ns:List Nd
structure Nm where
 nd:Nd
 A:Option Addr
 c:Nat
structure Dm where
 nx:Int
 xs:List Nm
 A:Option Addr
 c:Nat
abbrev Nm.sl (x:Nm):Value:= .slice x.A x.nd.es.length x.c
abbrev Dm.sl (d:Dm):Value:= .slice d.A d.xs.length d.c
def Dm.dv (d:Dm):Dv:=⟨d.nx,d.xs.map (·.nd)⟩
abbrev ndC (n:Nd) (v:Value):Array Value:=#[.int .i64 n.ino, .int .i64 n.kind, .int .i64 n.mode, .int .i64 n.uid, .int .i64 n.gid, .int .i64 n.par, .string n.tg,v]
abbrev dvC (nx:Int) (v:Value):Array Value:=#[.int .i64 nx,v]
def zNd:Nd:=⟨0,0,0,0,0,0,⟨#[]⟩, []⟩
theorem Tryz.Jy:(Tryz.prog.info? 209).map (fun i=>(i.zero,i.size,i.bytes))=some (some (.agg #[.string ⟨#[]⟩, .int .i64 0]),2,24):=by kernel_rfl
theorem Tryz.Jz:(Tryz.prog.info? 145).map (fun i=>(i.zero,i.size,i.bytes))=some (some (.agg (ndC zNd (.slice none 0 0))),8,88):=by kernel_rfl
theorem Tryz.JA:(Tryz.prog.info? 142).map (fun i=>(i.zero,i.size,i.bytes))=some (some (.agg (dvC 0 (.slice none 0 0))),2,32):=by kernel_rfl
def EEn:El En where
 C x:= [.string x.nm, .int .i64 x.ino]
 e:=209
 sl:=143
 sz:=2
 bs:=24
 len _:=rfl
 one x u hu:=by simp at hu;rcases hu with rfl | rfl <;> rfl
 pos:=by omega
 small:=by omega
 hu:=Tryz.underlying143
 info:=by
  obtain ⟨i0,h1,h2,h3,h4⟩:=info_parts Tryz.Jy;exact ⟨i0,_,h1,h2,h3,h4,rfl⟩
def ENd:El Nm where
 C x:= [.int .i64 x.nd.ino, .int .i64 x.nd.kind, .int .i64 x.nd.mode, .int .i64 x.nd.uid, .int .i64 x.nd.gid, .int .i64 x.nd.par, .string x.nd.tg, .slice x.A x.nd.es.length x.c]
 e:=145
 sl:=140
 sz:=8
 bs:=88
 len _:=rfl
 one x u hu:=by simp at hu;rcases hu with rfl | rfl | rfl | rfl | rfl | rfl | rfl | rfl <;> rfl
 pos:=by omega
 small:=by omega
 hu:=Tryz.underlying140
 info:=by
  obtain ⟨i0,h1,h2,h3,h4⟩:=info_parts Tryz.Jz;exact ⟨i0,_,h1,h2,h3,h4,rfl⟩
def EDv:El Dm where
 C d:= [.int .i64 d.nx, .slice d.A d.xs.length d.c]
 e:=142
 sl:=26
 sz:=2
 bs:=32
 len _:=rfl
 one x u hu:=by simp at hu;rcases hu with rfl | rfl <;> rfl
 pos:=by omega
 small:=by omega
 hu:=Tryz.underlying26
 info:=by
  obtain ⟨i0,h1,h2,h3,h4⟩:=info_parts Tryz.JA;exact ⟨i0,_,h1,h2,h3,h4,rfl⟩
def jU (n:Nd):Prop:=n.es.length≤1000∧n.tg.size≤1000∧∀ x∈n.es,x.nm.size≤1000
structure bR (w:World) (B:Nat) (A:Option Addr) (ds:List Dm):Prop where
 at_:AtE EDv w B A ds
 few:ds.length≤1000
 nodes:∀ d∈ds,AtE ENd w B d.A d.xs∧d.xs.length≤1000
 cO:∀ d∈ds,∀ x∈d.xs,AtE EEn w B x.A x.nd.es∧jU x.nd
section
variable {w w' :World} {B B' :Nat} {A:Option Addr} {ds:List Dm}
theorem bR.keep (h:bR w B A ds) (hb:Below B' w w') (hB:B≤B'):bR w' B A ds:=
 ⟨h.at_.keep hb hB,h.few,fun d hd=>⟨(h.nodes d hd).1.keep hb hB,(h.nodes d hd).2⟩,fun d hd x hx=>⟨(h.cO d hd x hx).1.keep hb hB,(h.cO d hd x hx).2⟩⟩
theorem bR.more (h:bR w B A ds) (hB:B≤B'):bR w B' A ds:=
 ⟨h.at_.more hB,h.few,fun d hd=>⟨(h.nodes d hd).1.more hB,(h.nodes d hd).2⟩,fun d hd x hx=>⟨(h.cO d hd x hx).1.more hB,(h.cO d hd x hx).2⟩⟩
theorem bR.below (h:bR w w.heap.size A ds) (hb:Below w.heap.size w w'):bR w' w'.heap.size A ds:=(h.keep hb (Nat.le_refl _)).more hb.size
end
def iT (f:List Dv) (dev:Int):Option Dv:=if dev < 0 then none else f[dev.toNat]?
def kI (l:List Nd) (ino:Int):Option Nat:=l.findIdx? (fun n=>n.ino == ino)
def iA (f:List Dv) (dev ino:Int):Option Nat:=(iT f dev).bind fun d=>kI d.ns ino
def aG (f:List Dv) (dev ino:Int):Option Nd:=(iT f dev).bind fun d=>d.ns.find? (fun n=>n.ino == ino)
def dz (f:List Dv) (dev ino:Int):Bool:=match aG f dev ino with | some n=>n.kind == 2 | none=>false
def CG:Option Nat→Int | some i=>i | none=> -1
theorem iB {w:World} {a:Addr} {x:En} (h:∀ j,j < 2→w.cell? (a.add j)=(EEn.C x)[j]?):w.cell? a=some (.string x.nm)∧w.cell? ⟨a.block,a.off+1,none⟩=some (.int .i64 x.ino):=⟨h 0 (by omega),h 1 (by omega)⟩
theorem bO {w:World} {a:Addr} {d:Dm} (h:∀ j,j < 2→w.cell? (a.add j)=(EDv.C d)[j]?):w.cell? a=some (.int .i64 d.nx)∧w.cell? ⟨a.block,a.off+1,none⟩=some (.slice d.A d.xs.length d.c):=⟨h 0 (by omega),h 1 (by omega)⟩
theorem dE {w:World} {a:Addr} {x:Nm} (h:∀ j,j < 8→w.cell? (a.add j)=(ENd.C x)[j]?):
  w.cell? a=some (.int .i64 x.nd.ino)∧w.cell? ⟨a.block,a.off+1,none⟩=some (.int .i64 x.nd.kind)∧w.cell? ⟨a.block,a.off+2,none⟩=some (.int .i64 x.nd.mode)∧w.cell? ⟨a.block,a.off+3,none⟩=some (.int .i64 x.nd.uid)∧w.cell? ⟨a.block,a.off+4,none⟩=some (.int .i64 x.nd.gid)∧w.cell? ⟨a.block,a.off+5,none⟩=some (.int .i64 x.nd.par)∧w.cell? ⟨a.block,a.off+6,none⟩=some (.string x.nd.tg)∧w.cell? ⟨a.block,a.off+7,none⟩=some (.slice x.A x.nd.es.length x.c):=
 ⟨h 0 (by omega),h 1 (by omega),h 2 (by omega),h 3 (by omega),h 4 (by omega),h 5 (by omega),h 6 (by omega),h 7 (by omega)⟩
theorem jV {ds:List Dm} {dev:Int} (h:dev < 0∨(ds.length:Int)≤dev):iT (ds.map Dm.dv) dev=none:=by
 unfold iT;split
 · rfl
 · rw [List.getElem?_eq_none];simp;omega
theorem eG {ds:List Dm} {dev:Int} (h0:0≤dev) (h1:dev.toNat < ds.length):iT (ds.map Dm.dv) dev=some (ds[dev.toNat].dv):=by
 unfold iT;rw [if_neg (by omega),List.getElem?_map,List.getElem?_eq_getElem h1];rfl
theorem yR {l:List Nd} {ino:Int} (h:∀ k (hk:k < l.length),(l[k].ino == ino)=false):kI l ino=none:=by
 unfold kI;rw [List.findIdx?_eq_none_iff];intro x hx;obtain ⟨k,hk,rfl⟩:=List.getElem_of_mem hx;exact h k hk
theorem yS {l:List Nd} {ino:Int} {k:Nat} (hk:k < l.length) (h:∀ j (hj:j < k),(l[j].ino == ino)=false) (he:(l[k].ino == ino)=true):kI l ino=some k:=by
 unfold kI;rw [List.findIdx?_eq_some_iff_getElem];exact ⟨hk,he,fun j hj=>by rw [h j hj];decide⟩
theorem CR {l:List Nd} {ino:Int} {k:Nat} (h:kI l ino=some k):∃ hk:k < l.length,l.find? (fun n=>n.ino == ino)=some l[k]:=by
 unfold kI at h;obtain ⟨hk,he,hn⟩:=List.findIdx?_eq_some_iff_getElem.1 h;refine ⟨hk,?_⟩;rw [List.find?_eq_some_iff_getElem];exact ⟨he,k,hk,rfl,fun j hj=>by have:=hn j hj;simpa using this⟩
theorem CS {l:List Nd} {ino:Int} (h:kI l ino=none):l.find? (fun n=>n.ino == ino)=none:=by
 unfold kI at h;rw [List.findIdx?_eq_none_iff] at h;rw [List.find?_eq_none];intro x hx;rw [h x hx];decide
theorem bW {q n:Nat} (h:q≤n) (h9:n≤1000000):wrap64 ((q:Int)+1)=(q:Int)+1∧IntKind.i64.wrap ((q:Int)+1)=(q:Int)+1:=⟨IntWalk.wrap64_in _ (by omega),IntWalk.i64_in _ (by omega)⟩
end Go.Proofs.YtollifnnpihfdaaGreatDoor
