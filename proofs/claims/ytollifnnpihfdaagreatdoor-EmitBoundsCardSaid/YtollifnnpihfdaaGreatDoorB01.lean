import Derived.Deep.RegionHeld
import Derived.Lib.Hide
import Derived.Lib.BufferRead
import Derived.Lib.SmallJoins
import Derived.Test.YtollifnnpihfdaaGreatDoorProg
import Derived.WalkSpells
import Derived.BigQuiet
set_option maxRecDepth 100000
set_option maxHeartbeats 64000000
set_option linter.all false
namespace Go
theorem RowKit.Hid.o {p : Prop} (h : RowKit.Hid p) : p := h
theorem RowKit.Hd {p : Prop} (h : p) : RowKit.Hid p := h
theorem Shut.o {p : Prop} (h : Shut p) : p := h
end Go
namespace Go.Proofs.YtollifnnpihfdaaGreatDoor
open Go
theorem gs {p : Prop} (h : p := by go_simp; try (with_reducible rfl)) : p := h
theorem gr {p : Prop} (h : p := by go_simp; first | (with_reducible rfl) | (rw [if_neg (by first | omega | (simp; omega))])) : p := h
theorem tk {P : Program} {ops : Array Oper} {Q : Exit → Act → World → Prop} {md : Region.Mode} {S : World → Prop} {oi : Oper} {fuel : Nat} {listed : Array Bool} {a : Act} {w : World} (hS : S w) (i : Nat) (v : Value)
    (hy : ∀ w, S w → (execOp a.eval oi).run P w = .ok (.value v) w) (h : wpAnyH P md ops Q S fuel (listed.setIfInBounds i true) (a.put oi.dst v) w)
    (hi : ops[i]? = some oi := by rfl) (hs : Region.noSelect ops = true := by kernel_rfl) (hf : Region.free md ops listed i = true := by kernel_rfl) (hr : (Region.ready md ops listed).contains i = true := by kernel_rfl)
    (hQ : ∀ c a w, Q (.panic c) (a.put oi.dst v) w → Q (.panic c) a w := by intro _ _ _ h; exact h) (hw : Region.wanted oi (yielded ops a.tmps) = true := by kernel_rfl) : wpAnyH P md ops Q S (fuel + 1) listed a w :=
  wpAnyH_take hi hs hf hr hQ (Or.inl ⟨hw, hy⟩) hS h
theorem rdy1 {P : Program} {ops : Array Oper} {Q : Exit → Act → World → Prop} {md : Region.Mode} {S : World → Prop} {oi : Oper} {fuel : Nat} {listed : Array Bool} {a : Act} {w : World} (i : Nat)
    (h : ∀ K' : Act → World → Prop, Shut (∀ a w, S w → (S w → wpAnyH P md ops Q S fuel (listed.setIfInBounds i true) a w) → K' a w) → if Region.wanted oi (yielded ops a.tmps) = true then Oper.wp P oi a w K' Q else K' (a.put oi.dst undef) w)
    (hi : ops[i]? = some oi := by rfl) (hr : Region.ready md ops listed = [i] := by kernel_rfl) : wpAnyH P md ops Q S (fuel + 1) listed a w :=
  wpAnyH_ready hr (by simp) (AllReadyH.cons hi h AllReadyH.nil)
end Go.Proofs.YtollifnnpihfdaaGreatDoor
namespace Go.Proofs.YtollifnnpihfdaaGreatDoor
theorem um {a b:Bool} (h:a=b):Ending.returned (.bool a)= .returned (.bool b):=by rw [h]
theorem uo {k:IntKind} {a b:Int} (h:a=b):Ending.returned (.int k a)= .returned (.int k b):=by rw [h]
theorem Jk {a b:ByteArray} (h:a=b):Ending.returned (.string a)= .returned (.string b):=by rw [h]
def okc (c:UInt8):Bool:=decide (33≤c.toNat) && decide (c.toNat≤126) && decide (c.toNat≠34)
def gQ (l:List UInt8):Bool:=l.all okc
theorem gW (s:ByteArray) (k:Nat) (h:k < s.size):s.data.toList.take (k+1)=s.data.toList.take k ++ [s[k]]:=by
 rw [List.take_succ_eq_append_getElem (by simpa using h)];rfl
theorem gm (s:ByteArray) (k:Nat) (h:s.size≤k):s.data.toList.take k=s.data.toList:=
 List.take_of_length_le (by simpa using h)
theorem uI (l:List UInt8) (c:UInt8):gQ (l ++ [c])=(gQ l && okc c):=by simp [gQ,List.all_append]
theorem rH {c:UInt8} (h1:33≤(c.toNat:Int)) (h2:(c.toNat:Int)≤126) (h3:((c.toNat:Int) == 34)=false):okc c=true:=by
 have:(c.toNat:Int)≠34:=by simpa using h3
 unfold okc;simp;omega
theorem jW {c:UInt8} (h:okc c=true):33≤(c.toNat:Int)∧(c.toNat:Int)≤126∧((c.toNat:Int) == 34)=false:=by
 unfold okc at h;simp at h;refine ⟨by omega,by omega,by simp;omega⟩
theorem oQ (s:ByteArray) (k:Nat) (h:k < s.size) (hp:gQ (s.data.toList.take k)=true) (hc:okc s[k]=true):gQ (s.data.toList.take (k+1))=true:=by
 rw [gW s k h,uI,hp,hc];rfl
theorem oU (s:ByteArray) (k:Nat) (h:k < s.size) (hc:okc s[k]=false):gQ s.data.toList=false:=by
 rw [← Bool.not_eq_true];intro hall;have:=(List.all_eq_true.1 hall) s[k] (Array.mem_toList_iff.2 (Array.getElem_mem (xs:=s.data) h));rw [hc] at this;cases this
def qJ (n:Nat):UInt8:=if n < 10 then UInt8.ofNat (48+n) else UInt8.ofNat (87+n)
def EN (c:UInt8):List UInt8:= [qJ (c.toNat / 16),qJ (c.toNat % 16)]
def tu (l:List UInt8):List UInt8:=l.flatMap EN
def oV (l:List UInt8):List UInt8:=if gQ l then 34 :: (l ++ [34]) else 120 :: tu l
def df (s:ByteArray):ByteArray:=if 640 < s.size then ⟨#[]⟩ else ⟨(oV s.data.toList).toArray⟩
def iH (s:ByteArray):Int:=if 640 < s.size then 20 else 0
theorem oW (l:List UInt8) (c:UInt8):tu (l ++ [c])=tu l ++ EN c:=by simp [tu]
theorem kQ (l:List UInt8):(tu l).length=2 * l.length:=by
 induction l with
 | nil=>rfl
 | cons c l ih=>
  have e:tu (c :: l)=EN c ++ tu l:=rfl;rw [e,List.length_append,ih,List.length_cons];simp only [EN,List.length_cons,List.length_nil];omega
abbrev bv (c:UInt8):Value:= .int .u8 (c.toNat:Int)
open Go.RowKit
theorem yQ {P:Program} {w:World} {base:Nat} {src dst e:TypeId} {v:Value} {n:Nat} {l:List UInt8} (h:w.ownsRow base e 1 v n (l.map bv))
   (hs:P.underlying src=some (.slice e)) (he:P.underlying e=some (.int .u8)) (hd:P.underlying dst=some .string):
   (convert src dst v).run P w= .ok (.string ⟨l.toArray⟩) w:=by
 have hl:n=l.length:=by have:=h.1;simp at this;omega
 rcases Joins.ownsRow_forms h with ⟨rfl,h0⟩ | ⟨g,cap,rfl⟩
 · have:l= []:=List.eq_nil_of_length_eq_zero (by omega);subst this;exact Lib.run_convert_nil_bytes w src dst e 0 hs he hd
 · subst hl;exact run_convert_bytes_back w src dst e _ cap l hs he hd fun j hj=>h.cells (g:=g) rfl j _ (by simp [List.getElem?_eq_getElem hj])
theorem gX {B base size n:Nat} {e:TypeId} {v:Value} {xs:List Value} {a w w1 w2:World} (h:Below B a w1) (hown:w.ownsRow base e size v n xs) (hb:B≤base) (hg:w1.grownBy w2 v.ownBlock) (hB:B≤w1.heap.size):Below B a w2:=
 h.grown hg hB fun k hk=>Nat.le_trans hb (hown.lt k hk).1
theorem below_drewN {B:Nat} {a w:World} (h:Below B a w) (n:Nat):Below B a (w.drewN n):=⟨h.os,h.tape,h.output,h.size,h.block⟩
theorem aa {a b c:World} (h:Below a.heap.size a b) (k:Below b.heap.size b c):Below a.heap.size a c:=h.trans (k.mono h.size)
def qK (w:World) (g:Nat) (cs:Array Value):Prop:=∃ tt fr,w.heap[g]? =some (.cells cs tt fr)
theorem qK.lt {w:World} {g:Nat} {cs:Array Value} (h:qK w g cs):g < w.heap.size:=by
 obtain ⟨tt,fr,h⟩:=h;rcases Nat.lt_or_ge g w.heap.size with hlt | hge
 · exact hlt
 · rw [Array.getElem?_eq_none hge] at h;cases h
theorem qK.cell {w:World} {g:Nat} {cs:Array Value} (h:qK w g cs) (i:Nat):w.cell? ⟨g,i,none⟩=cs[i]? :=by
 obtain ⟨tt,fr,h⟩:=h;exact cell_of_row w g i cs tt fr h
theorem qK.below {B:Nat} {w w' :World} {g:Nat} {cs:Array Value} (h:qK w g cs) (hb:Below B w w') (hB:w.heap.size≤B):qK w' g cs:=by
 have hlt:=h.lt;obtain ⟨tt,fr,h⟩:=h;exact ⟨tt,fr,(hb.block g (by omega)).trans h⟩
def Blk (w:World) (g:Nat) (t:TypeId) (cs:Array Value):Prop:=w.heap[g]? =some (.cells cs t (0,0))
theorem Blk.lt {w:World} {g:Nat} {t:TypeId} {cs:Array Value} (h:Blk w g t cs):g < w.heap.size:=(Array.getElem?_eq_some_iff.1 h).1
theorem Blk.new (w:World) (cs:Array Value) (t:TypeId):Blk (w.alloc (.cells cs t)) w.heap.size t cs:=heap_alloc_new w _
theorem Blk.cell {w:World} {g:Nat} {t:TypeId} {cs:Array Value} (h:Blk w g t cs) (i:Nat):w.cell? ⟨g,i,none⟩=cs[i]? :=cell_of_row w g i cs t (0,0) h
theorem Blk.free {w:World} {g:Nat} {t:TypeId} {cs:Array Value} (h:Blk w g t cs) (i:Nat):w.frozen? ⟨g,i,none⟩=false:=frozen_of_row w g i cs t h
theorem Blk.keep {w w' :World} {g:Nat} {t:TypeId} {cs:Array Value} (h:Blk w g t cs) {B:Nat} (hb:Below B w w') (hB:g < B):Blk w' g t cs:=(hb.block g hB).trans h
theorem Blk.below {w w' :World} {g:Nat} {t:TypeId} {cs:Array Value} (h:Blk w g t cs) (hb:Below w.heap.size w w'):Blk w' g t cs:=h.keep hb h.lt
theorem Blk.alloc {w:World} {g:Nat} {t:TypeId} {cs:Array Value} (h:Blk w g t cs) (o:Obj):Blk (w.alloc o) g t cs:=h.below ((Below.refl _ _).alloc (Nat.le_refl _) _)
theorem Blk.grown {w w' :World} {g:Nat} {t:TypeId} {cs:Array Value} (h:Blk w g t cs) {row:Option Nat} (hg:w.grownBy w' row) (hne:row≠some g):Blk w' g t cs:=(hg.block g h.lt (fun e=>hne e.symm)).trans h
theorem Blk.row {w:World} {g:Nat} {t:TypeId} {cs:Array Value} (h:Blk w g t cs) (ds:Array Value):Blk (w.setRow g ds) g t ds:=setRow_heap w g cs ds t _ h
theorem Blk.ah {w:World} {g k:Nat} {t:TypeId} {cs:Array Value} (h:Blk w g t cs) (ds:Array Value) (hne:g≠k):Blk (w.setRow k ds) g t cs:=(setRow_other w k g ds hne).trans h
theorem Blk.put {w:World} {g:Nat} {t:TypeId} {cs:Array Value} (h:Blk w g t cs) (i:Nat) (v:Value):Blk (w.setCell ⟨g,i,none⟩ v) g t (cs.setIfInBounds i v):=heap_setCell_same w g i cs t v h
theorem Blk.af {w:World} {g:Nat} {t:TypeId} {cs:Array Value} (h:Blk w g t cs) {p:Addr} (v:Value) (hne:g≠p.block):Blk (w.setCell p v) g t cs:=(heap_setCell_other w p g v hne).trans h
theorem ai {B g:Nat} {a w:World} (h:Below B a w) (hg:B≤g) (cs:Array Value):Below B a (w.setRow g cs):=
 ⟨h.os,h.tape,h.output,by rw [setRow_size];exact h.size,fun i hi=>(setRow_other w g i cs (by omega)).trans (h.block i hi)⟩
theorem boxed {w w1:World} {o:Obj} (hb:Below (w.alloc o).heap.size (w.alloc o) w1):Below (w.heap.size+1) (w.alloc o) w1:=by simpa using hb
theorem unbox {w w1:World} {o:Obj} (hb:Below (w.heap.size+1) (w.alloc o) w1):Below w.heap.size w w1:=((Below.refl _ _).alloc (Nat.le_refl _) _).trans (hb.mono (by omega))
theorem oZ {w w1:World} {o:Obj} (hb:Below (w.alloc o).heap.size (w.alloc o) w1):Below w.heap.size w w1:=unbox (boxed hb)
theorem ae {P:Program} {ops:Array Oper} {rest:List Oper} {o:Oper} {a:Act} {w:World} {Q:Exit→Act→World→Prop} (hgd:o.guard=none) (ty:TypeId) (x y:Operand) (ho:o.op= .store ty x y)
  {g:Nat} {t:TypeId} {old:Array Value} (hg:Blk w g t old) (cells:Array Value) (hx:a.eval x= .pointer (some ⟨g,0,none⟩)) (hy:a.eval y= .agg cells)
  (hi:(P.info? ty).map (·.size)=some cells.size) (hold:old.size=cells.size) (h1:cells.all (·.oneCell')=true)
  (h:wpList P ops Q rest (a.put o.dst undef) (w.setRow g cells)):wpList P ops Q (o :: rest) a w:=
 wpList_store_row hgd ty x y ho g cells hx hy t old hg hi hold h1 h
theorem az {P:Program} {ops:Array Oper} {rest:List Oper} {o:Oper} {a:Act} {w:World} {Q:Exit→Act→World→Prop} (hgd:o.guard=none) (ty:TypeId) (x:Operand) (ho:o.op= .load ty x)
  {g:Nat} {t:TypeId} {cs:Array Value} (hg:Blk w g t cs) (hx:a.eval x= .pointer (some ⟨g,0,none⟩)) (d:TypeDesc)
  (hu:P.underlying ty=some d) (hd:(match d with | .struct _ | .array _ _=>true | _=>false)=true) (hi:(P.info? ty).map (·.size)=some cs.size)
  (h:wpList P ops Q rest (a.put o.dst (.agg cs)) w):wpList P ops Q (o :: rest) a w:=
 wpList_load_row hgd ty x ho g hx t cs (0,0) d hg hu hd hi h
def aV (w:World) (base g:Nat) (b:Int):Prop:=base≤g∧∃ (A:Option Addr) (n c:Nat) (a:Int),w.heap[g]? =some (.cells #[.slice A n c, .int .i64 a] 111 (0,0))∧0≤a∧a≤b∧(n:Int)≤9223372036854775807∧
 ∀ k,k < n→∃ (ad:Addr) (z:Int),A=some ad∧ad.block < base∧w.cell? (ad.add k)=some (.int .i64 z)∧ -9223372036854775808≤z∧z≤9223372036854775807
theorem dC {w:World} {base g:Nat} {b:Int} (h:aV w base g b):g < w.heap.size:=by
 obtain ⟨_,A,n,c,a,hg,_⟩:=h;exact (Array.getElem?_eq_some_iff.1 hg).1
theorem aV.more {w:World} {base g:Nat} {b b' :Int} (h:aV w base g b) (hb:b≤b'):aV w base g b' :=by
 obtain ⟨h0,A,n,c,a,hg,ha,hab,hn,hl⟩:=h;exact ⟨h0,A,n,c,a,hg,ha,by omega,hn,hl⟩
theorem block_add (a:Addr) (n:Nat):(a.add n).block=a.block:=by unfold Addr.add;split <;> rfl
theorem aV.keep {w w' :World} {base g:Nat} {b:Int} (h:aV w base g b) (hg' :w'.heap[g]? =w.heap[g]?) (hk:∀ i,i < base→w'.heap[i]? =w.heap[i]?):aV w' base g b:=by
 obtain ⟨h0,A,n,c,a,hg,ha,hab,hn,hl⟩:=h;refine ⟨h0,A,n,c,a,hg'.trans hg,ha,hab,hn,fun k hk' =>?_⟩;obtain ⟨ad,z,e,hb,hc,hz⟩:=hl k hk';exact ⟨ad,z,e,hb,(World.cell?_of_block (by rw [block_add];exact hk _ hb)).trans hc,hz⟩
theorem aV.below {w w' :World} {base g:Nat} {b:Int} (h:aV w base g b) (hb:Below w.heap.size w w'):aV w' base g b:=
 h.keep (hb.block g (dC h)) fun i hi=>hb.block i (by have:=dC h;have:=h.1;omega)
theorem aV.grown {w w' :World} {base g:Nat} {b:Int} (h:aV w base g b) {row:Option Nat} (hg:w.grownBy w' row) (hr:∀ r,row=some r→base≤r∧r≠g):aV w' base g b:=
 h.keep (hg.block g (dC h) (fun e=>(hr g e.symm).2 rfl)) fun i hi=>hg.block i (by have:=dC h;have:=h.1;omega) (fun e=>by have:=(hr i e.symm).1;omega)
theorem aV.alloc {w:World} {base g:Nat} {b:Int} (h:aV w base g b) (o:Obj):aV (w.alloc o) base g b:=h.below ((Below.refl _ _).alloc (Nat.le_refl _) o)
theorem aV.drew {w:World} {base g:Nat} {b:Int} (h:aV w base g b):aV w.drew base g b:=h
theorem aV.setCell {w:World} {base g:Nat} {b:Int} (h:aV w base g b) {p:Addr} (hp:base≤p.block) (hne:p.block≠g) (u:Value):aV (w.setCell p u) base g b:=
 h.keep (Below.heap_setCell w p u g (Ne.symm hne)) fun i hi=>Below.heap_setCell w p u i (by omega)
theorem l6 {a w:World} {row:Option Nat} (h:a.grownBy w row) (n:Nat):a.grownBy (w.drewN n) row:=⟨h.os,h.tape,h.output,h.size,h.block⟩
theorem bF {a w:World} {row:Option Nat} (h:a.grownBy w row) (o:Obj):a.grownBy (w.alloc o) row:=
 ⟨h.os,h.tape,h.output,Nat.le_trans h.size (by simp),fun i hi hne=>(Below.heap_alloc w o i (Nat.lt_of_lt_of_le hi h.size)).trans (h.block i hi hne)⟩
theorem aF {a w:World} {g:Nat} (h:a.grownBy w (some g)) {p:Addr} (hp:p.block=g∨a.heap.size≤p.block) (u:Value):a.grownBy (w.setCell p u) (some g):=
 ⟨h.os,h.tape,h.output,by simpa [World.setCell] using h.size,fun i hi hne=>(Below.heap_setCell w p u i (fun e=>by
  rcases hp with hp | hp
  · exact hne (by rw [e,hp])
  · omega)).trans (h.block i hi hne)⟩
theorem bG {a w w' :World} {row:Option Nat} (h:a.grownBy w row) (hb:Below w.heap.size w w'):a.grownBy w' row:=
 ⟨hb.os.trans h.os,hb.tape.trans h.tape,hb.output.trans h.output,Nat.le_trans h.size hb.size,fun i hi hne=>(hb.block i (Nat.lt_of_lt_of_le hi h.size)).trans (h.block i hi hne)⟩
theorem ma {B:Nat} {a w w' :World} {g:Nat} (h:Below B a w) (hg:w.grownBy w' (some g)) (hB:B≤w.heap.size) (hBg:B≤g):Below B a w' :=
 h.grown hg hB fun k hk=>by injection hk with hk;omega
def JR (w:World) (base g:Nat) (b n:Int) (e:Ending) (w' :World):Prop:=∃ x:Int,e= .returned (.int .i64 x)∧0≤x∧x < n∧aV w' base g (b+1)∧w.grownBy w' (some g)
theorem Cr {w:World} {base g:Nat} {b:Int} (h0:base≤g) {A:Option Addr} {n c:Nat} {a:Int} (hg:w.heap[g]? =some (.cells #[.slice A n c, .int .i64 a] 111 (0,0))) (ha:0≤a) (hab:a≤b) (hn:(n:Int)≤9223372036854775807)
  (hl:∀ k,k < n→∃ (ad:Addr) (z:Int),A=some ad∧ad.block < base∧w.cell? (ad.add k)=some (.int .i64 z)∧ -9223372036854775808≤z∧z≤9223372036854775807):
  aV (w.setCell ⟨g,1,none⟩ (.int .i64 (a+1))) base g (b+1)∧w.grownBy (w.setCell ⟨g,1,none⟩ (.int .i64 (a+1))) (some g):=by
 refine ⟨⟨h0,A,n,c,a+1,heap_setCell_same w g 1 #[.slice A n c, .int .i64 a] _ (.int .i64 (a+1)) hg,by omega,by omega,hn,fun k hk=>?_⟩,aF (World.grownBy.refl w _) (.inl rfl) _⟩;obtain ⟨ad,z,e,hb,hc,hz⟩:=hl k hk;exact ⟨ad,z,e,hb,(World.cell?_of_block (by rw [block_add];exact Below.heap_setCell w ⟨g,1,none⟩ _ _ (by show ad.block≠g;omega))).trans hc,hz⟩
theorem Cs (z n:Int) (hn:1≤n): -n < z.tmod n∧z.tmod n < n:=by
 have h1:=Int.tmod_lt_of_pos z (show 0 < n by omega);have h2: -n < z.tmod n:=by
  have:=Int.tmod_lt_of_pos (-z) (show 0 < n by omega);rw [Int.neg_tmod] at this;omega
 exact ⟨h2,h1⟩
theorem ku (w:World) (base g:Nat) (b n:Int) (h:aV w base g b) (hb:b≤1000000000000000) (hn1:1≤n) (hn2:n≤1000000000000000):
   Calls Tryz.prog 14 #[.pointer (some ⟨g,0,none⟩), .int .i64 n] w (JR w base g b n):=by
 obtain ⟨h0,A,ln,c,a,hg,ha,hab,hln,hl⟩:=h;have Jl:=Hd (Cr h0 hg ha hab hln hl);have q0:w.cell? ⟨g,0,none⟩=some (.slice A ln c):=cell_of_row w g 0 _ _ (0,0) hg;have q1:w.cell? ⟨g,1,none⟩=some (.int .i64 a):=cell_of_row w g 1 _ _ (0,0) hg;have qf:w.frozen? ⟨g,1,none⟩=false:=frozen_of_row w g 1 _ _ hg;have HG:=Hd (show (w.setCell ⟨g,1,none⟩ (.int .i64 (a+1))).heap[g]? =some (.cells #[.slice A ln c, .int .i64 (a+1)] 111 (0,0)) from heap_setCell_same w g 1 #[.slice A ln c, .int .i64 a] _ (.int .i64 (a+1)) hg);have hkb:a+1≤1000000000000001:=by omega
 have HL:=Hd hl;have HLN:=Hd hln;clear hg hl hln;by_cases hlt:a < (ln:Int)
 · obtain ⟨ad,z,hA,E5,hc,hz0,hz1⟩:=HL.o a.toNat (by omega);subst hA;have HC:=Hd (show (w.setCell ⟨g,1,none⟩ (.int .i64 (a+1))).cell? (ad.add a.toNat)=some (.int .i64 z) from
    (World.cell?_of_block (by rw [block_add];exact Below.heap_setCell w ⟨g,1,none⟩ _ _ (by show ad.block≠g;omega))).trans hc)
   clear hc HL;have d1:decide (a+1≤(ln:Int))=true:=(by simp;omega);have tb:=Hd (Cs z n hn1);go_in;go_wp2_with fail;clear q0 q1 qf;generalize w.setCell ⟨g,1,none⟩ (.int .i64 (a+1))=w1 at *;have s0:w1.cell? ⟨g,0,none⟩=some (.slice (some ad) ln c):=cell_of_row w1 g 0 _ _ (0,0) HG.o;have s1:w1.cell? ⟨g,1,none⟩=some (.int .i64 (a+1)):=cell_of_row w1 g 1 _ _ (0,0) HG.o;have s2:=HC.o;go_quiet (fail);have w1' :IntKind.i64.wrap (a+1 - 1)=a:=(by rw [show a+1 - 1=a by omega];exact IntWalk.i64_in _ (by omega));go_wp2_with fail;go_quiet (fail);clear w1' s0 s1 s2 d1;obtain ⟨t1,t2⟩:=tb.o;go_wp2_with fail;all_goals
    go_ret;exact ⟨_,rfl,by omega,by omega,Jl.o.1,l6 Jl.o.2 _⟩
 · have d1:decide (a+1≤(ln:Int))=false:=(by simp;omega);have d2:(0:Int)≤(a+1) * 7:=(by omega);have tb1:0≤((a+1) * 7) % n:=Int.emod_nonneg _ (by omega);have tb2:((a+1) * 7) % n < n:=Int.emod_lt_of_pos _ (by omega);clear HL;go_in;go_wp2_with fail;clear q0 q1 qf;generalize w.setCell ⟨g,1,none⟩ (.int .i64 (a+1))=w1 at *;have s0:w1.cell? ⟨g,0,none⟩=some (.slice A ln c):=cell_of_row w1 g 0 _ _ (0,0) HG.o;have s1:w1.cell? ⟨g,1,none⟩=some (.int .i64 (a+1)):=cell_of_row w1 g 1 _ _ (0,0) HG.o;go_quiet (fail);clear s0 s1 d1;go_wp2_with fail;go_ret;exact ⟨_,rfl,tb1,tb2,Jl.o.1,l6 Jl.o.2 _⟩
theorem Ct (w:World) (A:Option Addr) (n c:Nat) (hn:(n:Int)≤9223372036854775807)
  (hl:∀ k,k < n→∃ (ad:Addr) (z:Int),A=some ad∧ad.block < w.heap.size∧w.cell? (ad.add k)=some (.int .i64 z)∧ -9223372036854775808≤z∧z≤9223372036854775807):
  Calls Tryz.prog 10 #[.slice A n c] w fun e w' =>e= .returned (.pointer (some ⟨w.heap.size,0,none⟩))∧aV w' w.heap.size w.heap.size 0∧Below w.heap.size w w' :=by
 have HL:=Hd hl;have HN:=Hd hn;clear hl hn;go_in
 go_wp2
 go_ret;refine ⟨rfl,⟨Nat.le_refl _,A,n,c,0,heap_alloc_new w _,by omega,by omega,HN.o,fun k hk=>?_⟩,(Below.refl _ _).alloc (Nat.le_refl _) _⟩;obtain ⟨ad,z,e,hb,hc,hz⟩:=HL.o k hk;exact ⟨ad,z,e,hb,(World.cell?_of_block (by rw [block_add];exact Below.heap_alloc w _ _ hb)).trans hc,hz⟩
def Bf (cs:Array Value) (m:Nat):Bool:=cs.toList.all fun | .string x=>decide (x.size≤m) | _=>false
def intsIn (cs:Array Value) (lo hi:Int):Bool:=cs.toList.all fun | .int .i64 x=>decide (lo≤x) && decide (x≤hi) | _=>false
theorem uJ {cs:Array Value} {m:Nat} (h:Bf cs m=true) (k:Nat) (hk:k < cs.size):∃ x:ByteArray,cs[k]? =some (.string x)∧x.size≤m:=by
 have hm:cs[k]∈cs.toList:=Array.mem_toList_iff.2 (Array.getElem_mem hk);have:=List.all_eq_true.1 h _ hm;split at this
 · rename_i x e;exact ⟨x,by rw [Array.getElem?_eq_getElem hk,e],by simpa using this⟩
 · cases this
theorem uK {cs:Array Value} {lo hi:Int} (h:intsIn cs lo hi=true) (k:Nat) (hk:k < cs.size):∃ x:Int,cs[k]? =some (.int .i64 x)∧lo≤x∧x≤hi:=by
 have hm:cs[k]∈cs.toList:=Array.mem_toList_iff.2 (Array.getElem_mem hk);have:=List.all_eq_true.1 h _ hm;split at this
 · rename_i x e;simp at this;exact ⟨x,by rw [Array.getElem?_eq_getElem hk,e],this.1,this.2⟩
 · cases this
def Cu (w:World) (base g:Nat) (b:Int) (m:Nat) (e:Ending) (w' :World):Prop:=∃ x:ByteArray,e= .returned (.string x)∧x.size≤m∧aV w' base g b∧w.grownBy w' (some g)
def E8 (w:World) (base g:Nat) (b lo hi:Int) (e:Ending) (w' :World):Prop:=∃ x:Int,e= .returned (.int .i64 x)∧lo≤x∧x≤hi∧aV w' base g b∧w.grownBy w' (some g)
theorem o5 {w w' :World} {g B:Nat} {cs:Array Value} {t:TypeId} {fr:Nat×Nat} (hg:w.grownBy w' (some g)) (hB:w.heap[B]? =some (.cells cs t fr)) (hne:B≠g) (k:Nat):w'.cell? ⟨B,k,none⟩=cs[k]? :=
 cell_of_row w' B k cs t fr ((hg.block B (Array.getElem?_eq_some_iff.1 hB).1 (fun e=>hne (by injection e))).trans hB)
theorem dW (w:World) (base g:Nat) (b lo hi:Int) (h:aV w base g b) (hb:b≤1000000000000000) (h1:lo≤hi) (h2: -1000000≤lo) (h3:hi≤1000000):
  Calls Tryz.prog 38 #[.pointer (some ⟨g,0,none⟩), .int .i64 lo, .int .i64 hi] w (E8 w base g (b+1) lo hi):=by
 have H:=Hd h;have HB:=Hd hb;clear h hb;go_in;go_wp2_with fail;refine (ku _ base g b _ H.o HB.o (by omega) (by omega)).mono ?_;rintro e w1 ⟨x,rfl,hx0,hx1,hs,hg⟩;have HS:=Hd hs;clear hs;go_wp2_with fail;go_ret;exact ⟨_,rfl,by omega,by omega,HS.o,hg⟩
theorem je (w:World) (base g B:Nat) (b:Int) (n m:Nat) (cs:Array Value) (t:TypeId) (fr:Nat×Nat) (h:aV w base g b) (hb:b≤1000000000000000) (hB:w.heap[B]? =some (.cells cs t fr)) (hne:B≠g)
  (hn:cs.size=n) (h1:1≤n) (h2:n≤1000) (hall:Bf cs m=true):
  Calls Tryz.prog 15 #[.pointer (some ⟨g,0,none⟩), .slice (some ⟨B,0,none⟩) n n] w (Cu w base g (b+1) m):=by
 have H:=Hd h;have HB:=Hd hb;have HBB:=Hd hB;have HN:=Hd hn;clear h hb hB hn;go_in;go_wp2_with fail;refine (ku _ base g b _ H.o HB.o (by omega) (by omega)).mono ?_;rintro e w1 ⟨x,rfl,hx0,hx1,hs,hg⟩;have HS:=Hd hs;clear hs;obtain ⟨k,rfl⟩:=Int.eq_ofNat_of_zero_le hx0;have hk:k < n:=by omega
 obtain ⟨y,hy,hym⟩:=uJ hall k (by rw [HN.o];exact hk);have hc:=(o5 hg HBB.o hne k).trans hy;clear hy;go_wp2_with fail;go_ret;exact ⟨_,rfl,hym,HS.o,hg⟩
theorem gu (w:World) (base g B:Nat) (b:Int) (n:Nat) (lo hi:Int) (cs:Array Value) (t:TypeId) (fr:Nat×Nat) (h:aV w base g b) (hb:b≤1000000000000000) (hB:w.heap[B]? =some (.cells cs t fr)) (hne:B≠g)
  (hn:cs.size=n) (h1:1≤n) (h2:n≤1000) (hall:intsIn cs lo hi=true):
  Calls Tryz.prog 61 #[.pointer (some ⟨g,0,none⟩), .slice (some ⟨B,0,none⟩) n n] w (E8 w base g (b+1) lo hi):=by
 have H:=Hd h;have HB:=Hd hb;have HBB:=Hd hB;have HN:=Hd hn;clear h hb hB hn;go_in;go_wp2_with fail;refine (ku _ base g b _ H.o HB.o (by omega) (by omega)).mono ?_;rintro e w1 ⟨x,rfl,hx0,hx1,hs,hg⟩;have HS:=Hd hs;clear hs;obtain ⟨k,rfl⟩:=Int.eq_ofNat_of_zero_le hx0;have hk:k < n:=by omega
 obtain ⟨y,hy,hy0,hy1⟩:=uK hall k (by rw [HN.o];exact hk);have hc:=(o5 hg HBB.o hne k).trans hy;clear hy;go_wp2_with fail;go_ret;exact ⟨_,rfl,hy0,hy1,HS.o,hg⟩
end Go.Proofs.YtollifnnpihfdaaGreatDoor
