import Derived.Test.YtollifnnpihfdaaGreatDoorW02
import Derived.Deep.RegionHeld3
import Derived.Deep.AppendLies
import Derived.Lib.AtoiAllCases
set_option maxRecDepth 100000
set_option maxHeartbeats 64000000
set_option linter.all false
namespace Go.Proofs.YtollifnnpihfdaaGreatDoor
open Go.RowKit
def Blk (w:World) (g:Nat) (t:TypeId) (cs:Array Value):Prop:=w.heap[g]? =some (.cells cs t (0,0))
theorem Blk.lt {w:World} {g:Nat} {t:TypeId} {cs:Array Value} (h:Blk w g t cs):g < w.heap.size:=(Array.getElem?_eq_some_iff.1 h).1
theorem Blk.new (w:World) (cs:Array Value) (t:TypeId):Blk (w.alloc (.cells cs t)) w.heap.size t cs:=heap_alloc_new w _
theorem Blk.cell {w:World} {g:Nat} {t:TypeId} {cs:Array Value} (h:Blk w g t cs) (i:Nat):w.cell? ⟨g,i,none⟩=cs[i]? :=cell_of_row w g i cs t (0,0) h
theorem Blk.free {w:World} {g:Nat} {t:TypeId} {cs:Array Value} (h:Blk w g t cs) (i:Nat):w.frozen? ⟨g,i,none⟩=false:=frozen_of_row w g i cs t h
theorem Blk.keep {w w' :World} {g:Nat} {t:TypeId} {cs:Array Value} (h:Blk w g t cs) {B:Nat} (hb:Below B w w') (hB:g < B):Blk w' g t cs:=(hb.block g hB).trans h
theorem Blk.below {w w' :World} {g:Nat} {t:TypeId} {cs:Array Value} (h:Blk w g t cs) (hb:Below w.heap.size w w'):Blk w' g t cs:=h.keep hb h.lt
theorem Blk.alloc {w:World} {g:Nat} {t:TypeId} {cs:Array Value} (h:Blk w g t cs) (o:Obj):Blk (w.alloc o) g t cs:=h.below ((Below.refl _ _).alloc (Nat.le_refl _) _)
theorem Blk.grown {w w' :World} {g:Nat} {t:TypeId} {cs:Array Value} (h:Blk w g t cs) {row:Option Nat} (hg:w.grownBy w' row) (hne:row≠some g):Blk w' g t cs:=(hg.block g h.lt (fun e=>hne e.symm)).trans h
theorem Blk.row {w:World} {g:Nat} {t:TypeId} {cs:Array Value} (h:Blk w g t cs) (ds:Array Value):Blk (w.setRow g ds) g t ds:=setRow_heap w g cs ds t _ h
theorem Blk.ah {w:World} {g k:Nat} {t:TypeId} {cs:Array Value} (h:Blk w g t cs) (ds:Array Value) (hne:g≠k):Blk (w.setRow k ds) g t cs:=(setRow_other w k g ds hne).trans h
theorem Blk.put {w:World} {g:Nat} {t:TypeId} {cs:Array Value} (h:Blk w g t cs) (i:Nat) (v:Value):Blk (w.setCell ⟨g,i,none⟩ v) g t (cs.setIfInBounds i v):=heap_setCell_same w g i cs t v h
theorem Blk.af {w:World} {g:Nat} {t:TypeId} {cs:Array Value} (h:Blk w g t cs) {p:Addr} (v:Value) (hne:g≠p.block):Blk (w.setCell p v) g t cs:=(heap_setCell_other w p g v hne).trans h
theorem ai {B g:Nat} {a w:World} (h:Below B a w) (hg:B≤g) (cs:Array Value):Below B a (w.setRow g cs):=
 ⟨h.os,h.tape,h.output,by rw [setRow_size];exact h.size,fun i hi=>(setRow_other w g i cs (by omega)).trans (h.block i hi)⟩
theorem boxed {w w1:World} {o:Obj} (hb:Below (w.alloc o).heap.size (w.alloc o) w1):Below (w.heap.size+1) (w.alloc o) w1:=by simpa using hb
theorem unbox {w w1:World} {o:Obj} (hb:Below (w.heap.size+1) (w.alloc o) w1):Below w.heap.size w w1:=((Below.refl _ _).alloc (Nat.le_refl _) _).trans (hb.mono (by omega))
theorem nH {w w1:World} {o:Obj} (hb:Below (w.alloc o).heap.size (w.alloc o) w1):Below w.heap.size w w1:=unbox (boxed hb)
theorem ae {P:Program} {ops:Array Oper} {rest:List Oper} {o:Oper} {a:Act} {w:World} {Q:Exit→Act→World→Prop} (hgd:o.guard=none) (ty:TypeId) (x y:Operand) (ho:o.op= .store ty x y)
  {g:Nat} {t:TypeId} {old:Array Value} (hg:Blk w g t old) (cells:Array Value) (hx:a.eval x= .pointer (some ⟨g,0,none⟩)) (hy:a.eval y= .agg cells)
  (hi:(P.info? ty).map (·.size)=some cells.size) (hold:old.size=cells.size) (h1:cells.all (·.oneCell')=true)
  (h:wpList P ops Q rest (a.put o.dst undef) (w.setRow g cells)):wpList P ops Q (o :: rest) a w:=
 wpList_store_row hgd ty x y ho g cells hx hy t old hg hi hold h1 h
theorem az {P:Program} {ops:Array Oper} {rest:List Oper} {o:Oper} {a:Act} {w:World} {Q:Exit→Act→World→Prop} (hgd:o.guard=none) (ty:TypeId) (x:Operand) (ho:o.op= .load ty x)
  {g:Nat} {t:TypeId} {cs:Array Value} (hg:Blk w g t cs) (hx:a.eval x= .pointer (some ⟨g,0,none⟩)) (d:TypeDesc)
  (hu:P.underlying ty=some d) (hd:(match d with | .struct _ | .array _ _=>true | _=>false)=true) (hi:(P.info? ty).map (·.size)=some cs.size)
  (h:wpList P ops Q rest (a.put o.dst (.agg cs)) w):wpList P ops Q (o :: rest) a w:=
 wpList_load_row hgd ty x ho g hx t cs (0,0) d hg hu hd hi h
def Ew (f:Int):Bool:=decide ((1≤f∧f≤8)∨f=13∨f=14)
def uB (l f:Int):Bool:=
 if l=1∨l=4 then Ew f
 else if l=2 then decide (1≤f∧f≤14)
 else if l=3 then decide (1≤f∧f≤21)
 else if l=5 then Ew f || decide (f=22)
 else false
def nV (f:Int):Bool:=decide (f=13∨f=14)
def uC (f:Int):Bool:=decide ((3≤f∧f≤7)∨f=19∨f=20)
def uD (f:Int):Bool:=decide (17≤f∧f≤21)
def gK (fd op nu:Int) (tx:ByteArray) (ot l:Int):Int:=
 if uB l fd=false then 120
 else if ot≠0∧(uB l ot=false∨uC fd=false∨uC ot=false) then 120
 else if op < 1∨8 < op then 121
 else if 2 < op∧(nV fd=true∨ot≠0) then 121
 else if ot≠0∧(nu≠0∨tx.size≠0) then 122
 else if nV fd=true∧(nu≠0∨tx.size=0∨640 < tx.size) then 122
 else if nV fd=false∧tx.size≠0 then 122
 else 0
abbrev I7 (fd op nu:Int) (tx:ByteArray) (ot:Int):Array Value:=#[.int .i64 fd, .int .i64 op, .int .i64 nu, .string tx, .int .i64 ot]
attribute [local irreducible] uB nV uC uD
end Go.Proofs.YtollifnnpihfdaaGreatDoor
namespace Go.Proofs.YtollifnnpihfdaaGreatDoor
structure Ctx where
 ph:Int
 p:Nat→Int
 a:Nat→Int
 ex:Int
 ty:Int
 comm:ByteArray
 exe:ByteArray
structure Itm where
 dev:Int
 ino:Int
 uid:Int
 gid:Int
 kind:Int
def Itm.none:Itm:=⟨0,0,0,0,0⟩
def I8 (c:Ctx) (i:Itm) (f:Int):Int:=
 if f≤8 then c.p (f - 1).toNat
 else if f≤12 then c.a (f - 9).toNat
 else if f=15 then c.ex
 else if f=16 then (if 0≤c.ex then 1 else 0)
 else if f=17 then i.ino
 else if f=18 then i.dev
 else if f=19 then i.uid
 else if f=20 then i.gid
 else if f=21 then i.kind
 else c.ty
def I9 (c:Ctx) (f:Int):Bool:=if 15≤f∧f≤21 then decide (c.ph=2) else decide (f≠22∨c.ty≠0)
def Kt (a b:Int):Int:=bits .and .i64 a b
def Ku (op a b:Int):Bool:=
 if op=1 then a == b else if op=2 then a != b else if op=3 then decide (a < b) else if op=4 then decide (a≤b)
 else if op=5 then decide (b < a) else if op=6 then decide (b≤a) else if op=7 then Kt a b != 0 else Kt a b == b
def uE (fd op nu:Int) (tx:ByteArray) (ot:Int):Bool:=
 decide (gK fd op nu tx ot 1=0) || (decide (gK fd op nu tx ot 2=0) || (decide (gK fd op nu tx ot 3=0) || (decide (gK fd op nu tx ot 4=0) || decide (gK fd op nu tx ot 5=0))))
def uF (c:Ctx) (fd op nu:Int) (tx:ByteArray) (ot:Int) (i:Itm):Bool:=
 if nV fd=true then (((if fd=14 then c.comm else c.exe).toList == tx.toList) == decide (op=1)) else Ku op (I8 c i fd) (if ot=0 then nu else I8 c i ot)
def Ja (i:Itm):Bool:=decide (i.dev≠0∨i.ino≠0)
def xH (c:Ctx) (L:List Itm) (fd op nu:Int) (tx:ByteArray) (ot:Int):Bool:=
 if uE fd op nu tx ot=false∨I9 c fd=false∨(ot≠0∧I9 c ot=false) then false
 else if uD fd=false∧uD ot=false then uF c fd op nu tx ot Itm.none
 else L.any fun i=>Ja i && uF c fd op nu tx ot i
open Go.RowKit
structure Sl where
 A:Option Addr
 n:Nat
 c:Nat
abbrev Sl.v (s:Sl):Value:= .slice s.A s.n s.c
structure dX where
 d:Int
 i:Int
 o:Sl
 u:Bool
 n:Int
 ps:Sl
 gs:Sl
structure bF where
 gv:ByteArray
 pa:ByteArray
 dd:Int
 di:Int
 nm:ByteArray
 ro:Int
 mo:Int
 pe:Int
def gu (c:Ctx) (r:dX) (it:Value):Array Value:=#[.int .i64 c.ph, .int .i64 (c.p 0), .int .i64 (c.p 1), .int .i64 (c.p 2), .int .i64 (c.p 3), .int .i64 (c.p 4), .int .i64 (c.p 5), .int .i64 (c.p 6), .int .i64 (c.p 7), .int .i64 r.d, .int .i64 r.i, .string c.comm, .string c.exe,r.o.v, .bool r.u, .int .i64 r.n, .int .i64 (c.a 0), .int .i64 (c.a 1), .int .i64 (c.a 2), .int .i64 (c.a 3),r.ps.v,r.gs.v, .int .i64 c.ex,it, .int .i64 c.ty]
def aZ (i:Itm) (r:bF):Array Value:=#[.string r.gv, .string r.pa, .int .i64 r.dd, .int .i64 r.di, .string r.nm, .int .i64 i.dev, .int .i64 i.ino, .int .i64 r.ro, .int .i64 i.kind, .int .i64 r.mo, .int .i64 i.uid, .int .i64 i.gid, .int .i64 r.pe]
abbrev Kv (c:Ctx) (r:dX) (it:Value):Value:= .agg (gu c r it)
abbrev Ex (i:Itm) (r:bF):Value:= .agg (aZ i r)
section
variable {w:World} {g:Nat} {c:Ctx} {r:dX} {it:Value} {i:Itm} {ir:bF}
abbrev gZ (w:World) (g:Nat) (c:Ctx) (r:dX) (it:Value):Prop:=Blk w g 54 (gu c r it)
abbrev ib (w:World) (g:Nat) (i:Itm) (r:bF):Prop:=Blk w g 73 (aZ i r)
theorem gZ.a0 (h:gZ w g c r it):w.cell? ⟨g,16,none⟩=some (.int .i64 (c.a 0)):=h.cell 16
theorem gZ.ex (h:gZ w g c r it):w.cell? ⟨g,22,none⟩=some (.int .i64 c.ex):=h.cell 22
theorem gZ.ty (h:gZ w g c r it):w.cell? ⟨g,24,none⟩=some (.int .i64 c.ty):=h.cell 24
theorem gZ.c9 (h:gZ w g c r it):w.cell? ⟨g,9,none⟩=some (.int .i64 r.d):=h.cell 9
theorem gZ.c10 (h:gZ w g c r it):w.cell? ⟨g,10,none⟩=some (.int .i64 r.i):=h.cell 10
theorem gZ.items (h:gZ w g c r it):w.cell? ⟨g,23,none⟩=some it:=h.cell 23
theorem ib.dev (h:ib w g i ir):w.cell? ⟨g,5,none⟩=some (.int .i64 i.dev):=h.cell 5
theorem ib.ino (h:ib w g i ir):w.cell? ⟨g,6,none⟩=some (.int .i64 i.ino):=h.cell 6
theorem ib.kind (h:ib w g i ir):w.cell? ⟨g,8,none⟩=some (.int .i64 i.kind):=h.cell 8
theorem ib.uid (h:ib w g i ir):w.cell? ⟨g,10,none⟩=some (.int .i64 i.uid):=h.cell 10
theorem ib.gid (h:ib w g i ir):w.cell? ⟨g,11,none⟩=some (.int .i64 i.gid):=h.cell 11
theorem qw (c:Ctx) (r:dX) (it:Value):(Tryz.prog.info? 54).map (·.size)=some (gu c r it).size:=by show _=some 25;kernel_rfl
theorem jq (i:Itm) (r:bF):(Tryz.prog.info? 73).map (·.size)=some (aZ i r).size:=by show _=some 13;kernel_rfl
end
attribute [local irreducible] gu aZ
end Go.Proofs.YtollifnnpihfdaaGreatDoor
namespace Go.Proofs.YtollifnnpihfdaaGreatDoor
def fT (x:ByteArray):Bool:=decide (x.size≠0)
open Go.ChangeShapes Go.WideShapes Go.RowKit
def bB (w:World) (B:Nat) (A:Option Addr) (ss:List ByteArray):Prop:=∀ k (hk:k < ss.length),∃ ad:Addr,A=some ad∧ad.block < B∧w.cell? (ad.add k)=some (.string (ss[k]'hk))
theorem gV (a:Addr) (n:Nat):(a.add n).block=a.block:=by unfold Addr.add;split <;> rfl
theorem bB.keep {w w' :World} {B B' :Nat} {A:Option Addr} {ss:List ByteArray} (h:bB w B A ss) (hb:Below B' w w') (hB:B≤B'):bB w' B A ss:=fun k hk=>by
 obtain ⟨ad,e,hl,hc⟩:=h k hk;exact ⟨ad,e,hl,(hb.cell (by rw [gV];omega)).trans hc⟩
theorem bB.more {w:World} {B B' :Nat} {A:Option Addr} {ss:List ByteArray} (h:bB w B A ss) (hB:B≤B'):bB w B' A ss:=fun k hk=>by
 obtain ⟨ad,e,hl,hc⟩:=h k hk;exact ⟨ad,e,by omega,hc⟩
theorem bB.nil {w:World} {B:Nat} {A:Option Addr} :bB w B A []:=fun k hk=>by simp at hk
def iT (ss:List ByteArray) (m:Nat):Bool:=ss.any fun s=>decide (m < s.size)
theorem uG {ss:List ByteArray} {m k:Nat} (hk:k < ss.length) (h:m < ss[k].size):iT ss m=true:=by
 unfold iT;rw [List.any_eq_true];exact ⟨ss[k],List.getElem_mem hk,by simpa using h⟩
theorem qx {ss:List ByteArray} {m:Nat} (h:∀ j (hj:j < ss.length),ss[j].size≤m):iT ss m=false:=by
 unfold iT;rw [List.any_eq_false];intro s hs;obtain ⟨j,hj,rfl⟩:=List.getElem_of_mem hs;simpa using h j hj
theorem Tryz.Ez:(Tryz.prog.info? 9).map (fun i=>(i.zero,i.size,i.bytes))=some (some (.string ⟨#[]⟩),1,16):=by kernel_rfl
def bG (w:World) (base:Nat) (v:Value) (L:List ByteArray):Prop:=w.ownsRow base 9 1 v L.length (L.map Value.string)
theorem bG.o {w:World} {base:Nat} {v:Value} {L:List ByteArray} (h:bG w base v L):w.ownsRow base 9 1 v L.length (L.map Value.string):=h
theorem bG.nil (w:World) (base:Nat):bG w base (.slice none 0 0) []:=World.ownsRow_nil _ _ _ _
theorem bG.alloc {w:World} {base:Nat} {v:Value} {L:List ByteArray} (h:bG w base v L) (o:Obj):bG (w.alloc o) base v L:=World.ownsRow.alloc h o
theorem bG.below {w w' :World} {base:Nat} {v:Value} {L:List ByteArray} (h:bG w base v L) (hb:Below w.heap.size w w'):bG w' base v L:=
 World.ownsRow.kept (row:=none) h ⟨hb.os,hb.tape,hb.output,hb.size,fun i hi _=>hb.block i hi⟩ (by
  cases hv:v.ownBlock with
  | none=>exact .inl rfl
  | some k=>exact .inr (by simp))
attribute [local irreducible] dY cB
theorem xS:(Tryz.prog.info? 147).map (·.size)=some 5:=by kernel_rfl
theorem qF (w:World) (g:Nat) (t:TypeId) (cs:Array Value) (tmps:Array Value) (hp:tmps.getD 2 undef= .pointer (some ⟨g,0,none⟩)) (h:Blk w g t cs) (h5:cs.size=5):
  (results Tryz.f63 tmps).run Tryz.prog w= .ok (.agg cs) w:=
 results_cell_row (p:=2) (ty:=147) rfl tmps w g t cs (0,0) _ hp h Tryz.underlying147 rfl (by rw [h5];exact xS)
theorem xU (z:Int) (hz:z < 0) (w:World):Calls Tryz.prog 63 #[.int .i64 z] w fun e w' =>e= .returned (ky.val .i64 ⟨⟨#[]⟩,0,0,0,0⟩)∧Below w.heap.size w w' :=by
 go_in;go_wp2_with fail;refine bodyPost_ret (v:=ky.val .i64 ⟨⟨#[]⟩,0,0,0,0⟩) ?_ rfl ?_
 · simp [results,Tryz.results63,go_sem,ky.val]
 · exact ⟨rfl,(Below.refl _ _).alloc (Nat.le_refl _) _⟩
theorem rA (z:Int) (hz:22≤z) (w:World):Calls Tryz.prog 63 #[.int .i64 z] w fun e w' =>e= .returned (ky.val .i64 ⟨⟨#[]⟩,0,0,0,0⟩)∧Below w.heap.size w w' :=by
 go_in;go_wp2_with fail;refine (zz _).mono ?_;rintro e w1 ⟨rfl,hb⟩;have HG:Blk w1 w.heap.size 147 _:=(Blk.new w _ _).keep (boxed hb) (by omega);have q0:=HG.cell 0;have f0:=HG.free 0;have q1:=HG.cell 1;have f1:=HG.free 1;have q2:=HG.cell 2;have f2:=HG.free 2;have q3:=HG.cell 3;have f3:=HG.free 3;have q4:=HG.cell 4;have f4:=HG.free 4;go_wp2_with fail;refine bodyPost_ret (qF _ _ _ _ _ rfl (((((HG.put 0 _).put 1 _).put 2 _).put 3 _).put 4 _) rfl) rfl ?_;exact ⟨rfl,(((((nH hb).setCell (Nat.le_refl _) _).setCell (Nat.le_refl _) _).setCell (Nat.le_refl _) _).setCell (Nat.le_refl _) _).setCell (Nat.le_refl _) _⟩
theorem Bl (n:Nat) (hn:n < 22) (w:World):Calls Tryz.prog 63 #[.int .i64 (n:Int)] w fun e w' =>e= .returned (ky.val .i64 (dY n))∧Below w.heap.size w w' :=by
 obtain ⟨k0,k1,k2,k3,k4⟩:=oz .i64 n hn;go_in;go_wp2_with fail;refine (zz _).mono ?_;rintro e w1 ⟨rfl,hb⟩;have HH:=Hd (show Blk w1 w.heap.size 147 _ from (Blk.new w _ _).keep (boxed hb) (by omega));have HB:=Hd (nH hb);clear hb;go_wp2_with fail;refine (zy _).mono ?_;rintro e w2 ⟨rfl,hg,hb2⟩;have HG:=HH.o.below hb2;have HB2:=Hd (HB.o.trans (hb2.mono HB.o.size));have c0:=(hg.cell (n * 5)).trans k0;have c1:=(hg.cell (n * 5+1)).trans k1;have c2:=(hg.cell (n * 5+2)).trans k2;have c3:=(hg.cell (n * 5+3)).trans k3;have c4:=(hg.cell (n * 5+4)).trans k4;have q0:=HG.cell 0;have f0:=HG.free 0;have q1:=HG.cell 1;have f1:=HG.free 1;have q2:=HG.cell 2;have f2:=HG.free 2;have q3:=HG.cell 3;have f3:=HG.free 3;have q4:=HG.cell 4;have f4:=HG.free 4;clear hg k0 k1 k2 k3 k4 HH HB hb2;have HR:=Hd (show ky.val .i64 (dY n)= .agg #[.string (dY n).name, .int .i64 (dY n).nums, .int .i64 (dY n).kF, .int .i64 (dY n).least, .int .i64 (dY n).most] from rfl);go_wp2_with fail;refine bodyPost_ret (qF _ _ _ _ _ rfl (((((HG.put 0 _).put 1 _).put 2 _).put 3 _).put 4 _) rfl) rfl ?_;exact ⟨by rw [HR.o];rfl,(((((HB2.o).setCell (Nat.le_refl _) _).setCell (Nat.le_refl _) _).setCell (Nat.le_refl _) _).setCell (Nat.le_refl _) _).setCell (Nat.le_refl _) _⟩
theorem qG {z:Int} (h:z < 0):dE z=⟨⟨#[]⟩,0,0,0,0⟩:=if_pos h
theorem lN {z:Int} (h:22≤z):dE z=⟨⟨#[]⟩,0,0,0,0⟩:=by
 unfold dE;rw [if_neg (by omega)];unfold dY;rw [List.getD_eq_getElem?_getD,List.getElem?_eq_none (by show mR.length≤_;have:mR.length=22:=rfl;omega)];rfl
theorem jW (n:Nat):dE (n:Int)=dY n:=by unfold dE;rw [if_neg (by omega),Int.toNat_natCast]
theorem KD (z:Int) (w:World):Calls Tryz.prog 63 #[.int .i64 z] w fun e w' =>e= .returned (ky.val .i64 (dE z))∧Below w.heap.size w w' :=by
 by_cases h0:z < 0
 · rw [qG h0];exact xU z h0 w
 · by_cases h1:22≤z
   · rw [lN h1];exact rA z h1 w
   · obtain ⟨n,rfl⟩:=Int.eq_ofNat_of_zero_le (show 0≤z by omega);rw [jW];exact Bl n (by omega) w
theorem EK (z:Int) (w:World):Calls Tryz.prog 87 #[.int .i64 z] w fun e w' =>e= .returned (.tuple #[.int .i64 (dE z).nums, .int .i64 (dE z).kF, .int .i64 (dE z).least, .int .i64 (dE z).most])∧Below w.heap.size w w' :=by
 have HG:=Hd (KD z);generalize dE z=r at *;obtain ⟨nm,a,b,c,d⟩:=r;go_in;go_wp2_with fail;refine (HG.o _).mono ?_;rintro e w1 ⟨rfl,hb⟩;unfold ky.val;go_wp2_with fail;go_quiet (fail);go_wp2_with fail;refine bodyPost_ret (oC rfl _ _ _) rfl ?_;exact ⟨rfl,below_drewN (hb.alloc hb.size _) _⟩
end Go.Proofs.YtollifnnpihfdaaGreatDoor
namespace Go.Proofs.YtollifnnpihfdaaGreatDoor
def dl (n:Nat):Nat:=(Lib.decDigits n).length
structure Tst where
 fd:Int
 op:Int
 nu:Int
 tx:ByteArray
 ot:Int
structure Rul where
 li:Int
 ac:Int
 ca:Nat
 ts:List Tst
 wa:Int
 pa:ByteArray
 pe:Int
 ke:ByteArray
def kS:Rul:=⟨0,0,0, [],0,⟨#[]⟩,0,⟨#[]⟩⟩
def Tst.ev (c:Ctx) (is:List Itm) (t:Tst):Bool:=xH c is t.fd t.op t.nu t.tx t.ot
def vD (c:Ctx) (n:Int) (is:List Itm) (hit:Bool) (r:Rul):Bool:=(r.ca == 0 || hasB r.ca n) && ((r.wa == 0 || hit) && r.ts.all (Tst.ev c is))
def zG (rs:List Rul) (l:Int) (c:Ctx) (n:Int) (is:List Itm):Option Nat:=rs.findIdx? fun r=>r.li == l && vD c n is false r
def zH (t:Int):Bool:=t == 1005 || t == 1300 || t == 1306 || t == 1307 || t == 1302 || t == 1309
def pI (rs:List Rul) (c:Ctx) (n:Int) (is:List Itm) (t:Int):Bool:=
 zH t && match zG rs 5 { c with ty:=t } n is with | some i=>(rs[i]?.map (fun r=>r.ac == 1)).getD false | none=>false
end Go.Proofs.YtollifnnpihfdaaGreatDoor
