import Derived.Test.YtollifnnpihfdaaGreatDoorT02
import Derived.Deep.RegionHeld3
import Derived.Deep.AppendLies
import Derived.Deep.DrawnRows
import Derived.Lib.MapLaws
import Derived.Lib.AtoiAllCases
set_option maxRecDepth 100000
set_option maxHeartbeats 64000000
set_option linter.all false
namespace Go.Proofs.YtollifnnpihfdaaGreatDoor
open Go.RowKit
def Blk (w:World) (g:Nat) (t:TypeId) (cs:Array Value):Prop:=w.heap[g]? =some (.cells cs t (0,0))
theorem Blk.lt {w:World} {g:Nat} {t:TypeId} {cs:Array Value} (h:Blk w g t cs):g < w.heap.size:=(Array.getElem?_eq_some_iff.1 h).1
theorem Blk.new (w:World) (cs:Array Value) (t:TypeId):Blk (w.alloc (.cells cs t)) w.heap.size t cs:=heap_alloc_new w _
theorem Blk.cell {w:World} {g:Nat} {t:TypeId} {cs:Array Value} (h:Blk w g t cs) (i:Nat):w.cell? ⟨g,i,none⟩=cs[i]? :=cell_of_row w g i cs t (0,0) h
theorem Blk.free {w:World} {g:Nat} {t:TypeId} {cs:Array Value} (h:Blk w g t cs) (i:Nat):w.frozen? ⟨g,i,none⟩=false:=frozen_of_row w g i cs t h
theorem Blk.keep {w w' :World} {g:Nat} {t:TypeId} {cs:Array Value} (h:Blk w g t cs) {B:Nat} (hb:Below B w w') (hB:g < B):Blk w' g t cs:=(hb.block g hB).trans h
theorem Blk.below {w w' :World} {g:Nat} {t:TypeId} {cs:Array Value} (h:Blk w g t cs) (hb:Below w.heap.size w w'):Blk w' g t cs:=h.keep hb h.lt
theorem Blk.alloc {w:World} {g:Nat} {t:TypeId} {cs:Array Value} (h:Blk w g t cs) (o:Obj):Blk (w.alloc o) g t cs:=h.below ((Below.refl _ _).alloc (Nat.le_refl _) _)
theorem Blk.grown {w w' :World} {g:Nat} {t:TypeId} {cs:Array Value} (h:Blk w g t cs) {row:Option Nat} (hg:w.grownBy w' row) (hne:row≠some g):Blk w' g t cs:=(hg.block g h.lt (fun e=>hne e.symm)).trans h
theorem Blk.row {w:World} {g:Nat} {t:TypeId} {cs:Array Value} (h:Blk w g t cs) (ds:Array Value):Blk (w.setRow g ds) g t ds:=setRow_heap w g cs ds t _ h
theorem Blk.ah {w:World} {g k:Nat} {t:TypeId} {cs:Array Value} (h:Blk w g t cs) (ds:Array Value) (hne:g≠k):Blk (w.setRow k ds) g t cs:=(setRow_other w k g ds hne).trans h
theorem Blk.put {w:World} {g:Nat} {t:TypeId} {cs:Array Value} (h:Blk w g t cs) (i:Nat) (v:Value):Blk (w.setCell ⟨g,i,none⟩ v) g t (cs.setIfInBounds i v):=heap_setCell_same w g i cs t v h
theorem Blk.af {w:World} {g:Nat} {t:TypeId} {cs:Array Value} (h:Blk w g t cs) {p:Addr} (v:Value) (hne:g≠p.block):Blk (w.setCell p v) g t cs:=(heap_setCell_other w p g v hne).trans h
theorem aj {B g:Nat} {a w:World} (h:Below B a w) (hg:B≤g) (cs:Array Value):Below B a (w.setRow g cs):=
 ⟨h.os,h.tape,h.output,by rw [setRow_size];exact h.size,fun i hi=>(setRow_other w g i cs (by omega)).trans (h.block i hi)⟩
theorem boxed {w w1:World} {o:Obj} (hb:Below (w.alloc o).heap.size (w.alloc o) w1):Below (w.heap.size+1) (w.alloc o) w1:=by simpa using hb
theorem unbox {w w1:World} {o:Obj} (hb:Below (w.heap.size+1) (w.alloc o) w1):Below w.heap.size w w1:=((Below.refl _ _).alloc (Nat.le_refl _) _).trans (hb.mono (by omega))
theorem nM {w w1:World} {o:Obj} (hb:Below (w.alloc o).heap.size (w.alloc o) w1):Below w.heap.size w w1:=unbox (boxed hb)
theorem ae {P:Program} {ops:Array Oper} {rest:List Oper} {o:Oper} {a:Act} {w:World} {Q:Exit→Act→World→Prop} (hgd:o.guard=none) (ty:TypeId) (x y:Operand) (ho:o.op= .store ty x y)
  {g:Nat} {t:TypeId} {old:Array Value} (hg:Blk w g t old) (cells:Array Value) (hx:a.eval x= .pointer (some ⟨g,0,none⟩)) (hy:a.eval y= .agg cells)
  (hi:(P.info? ty).map (·.size)=some cells.size) (hold:old.size=cells.size) (h1:cells.all (·.oneCell')=true)
  (h:wpList P ops Q rest (a.put o.dst undef) (w.setRow g cells)):wpList P ops Q (o :: rest) a w:=
 wpList_store_row hgd ty x y ho g cells hx hy t old hg hi hold h1 h
theorem aA {P:Program} {ops:Array Oper} {rest:List Oper} {o:Oper} {a:Act} {w:World} {Q:Exit→Act→World→Prop} (hgd:o.guard=none) (ty:TypeId) (x:Operand) (ho:o.op= .load ty x)
  {g:Nat} {t:TypeId} {cs:Array Value} (hg:Blk w g t cs) (hx:a.eval x= .pointer (some ⟨g,0,none⟩)) (d:TypeDesc)
  (hu:P.underlying ty=some d) (hd:(match d with | .struct _ | .array _ _=>true | _=>false)=true) (hi:(P.info? ty).map (·.size)=some cs.size)
  (h:wpList P ops Q rest (a.put o.dst (.agg cs)) w):wpList P ops Q (o :: rest) a w:=
 wpList_load_row hgd ty x ho g hx t cs (0,0) d hg hu hd hi h
def EE (f:Int):Bool:=decide ((1≤f∧f≤8)∨f=13∨f=14)
def uL (l f:Int):Bool:=
 if l=1∨l=4 then EE f
 else if l=2 then decide (1≤f∧f≤14)
 else if l=3 then decide (1≤f∧f≤21)
 else if l=5 then EE f || decide (f=22)
 else false
def nZ (f:Int):Bool:=decide (f=13∨f=14)
def uM (f:Int):Bool:=decide ((3≤f∧f≤7)∨f=19∨f=20)
def uN (f:Int):Bool:=decide (17≤f∧f≤21)
def ic (fd op nu:Int) (tx:ByteArray) (ot l:Int):Int:=
 if uL l fd=false then 120
 else if ot≠0∧(uL l ot=false∨uM fd=false∨uM ot=false) then 120
 else if op < 1∨8 < op then 121
 else if 2 < op∧(nZ fd=true∨ot≠0) then 121
 else if ot≠0∧(nu≠0∨tx.size≠0) then 122
 else if nZ fd=true∧(nu≠0∨tx.size=0∨640 < tx.size) then 122
 else if nZ fd=false∧tx.size≠0 then 122
 else 0
abbrev Jc (fd op nu:Int) (tx:ByteArray) (ot:Int):Array Value:=#[.int .i64 fd, .int .i64 op, .int .i64 nu, .string tx, .int .i64 ot]
attribute [local irreducible] uL nZ uM uN
end Go.Proofs.YtollifnnpihfdaaGreatDoor
namespace Go.Proofs.YtollifnnpihfdaaGreatDoor
structure Ctx where
 ph:Int
 p:Nat→Int
 a:Nat→Int
 ex:Int
 ty:Int
 comm:ByteArray
 exe:ByteArray
structure Itm where
 dev:Int
 ino:Int
 uid:Int
 gid:Int
 kind:Int
def Itm.none:Itm:=⟨0,0,0,0,0⟩
def Jd (c:Ctx) (i:Itm) (f:Int):Int:=
 if f≤8 then c.p (f - 1).toNat
 else if f≤12 then c.a (f - 9).toNat
 else if f=15 then c.ex
 else if f=16 then (if 0≤c.ex then 1 else 0)
 else if f=17 then i.ino
 else if f=18 then i.dev
 else if f=19 then i.uid
 else if f=20 then i.gid
 else if f=21 then i.kind
 else c.ty
def Je (c:Ctx) (f:Int):Bool:=if 15≤f∧f≤21 then decide (c.ph=2) else decide (f≠22∨c.ty≠0)
def Kz (a b:Int):Int:=bits .and .i64 a b
def KA (op a b:Int):Bool:=
 if op=1 then a == b else if op=2 then a != b else if op=3 then decide (a < b) else if op=4 then decide (a≤b)
 else if op=5 then decide (b < a) else if op=6 then decide (b≤a) else if op=7 then Kz a b != 0 else Kz a b == b
def uO (fd op nu:Int) (tx:ByteArray) (ot:Int):Bool:=
 decide (ic fd op nu tx ot 1=0) || (decide (ic fd op nu tx ot 2=0) || (decide (ic fd op nu tx ot 3=0) || (decide (ic fd op nu tx ot 4=0) || decide (ic fd op nu tx ot 5=0))))
def uP (c:Ctx) (fd op nu:Int) (tx:ByteArray) (ot:Int) (i:Itm):Bool:=
 if nZ fd=true then (((if fd=14 then c.comm else c.exe).toList == tx.toList) == decide (op=1)) else KA op (Jd c i fd) (if ot=0 then nu else Jd c i ot)
def Jf (i:Itm):Bool:=decide (i.dev≠0∨i.ino≠0)
def xS (c:Ctx) (L:List Itm) (fd op nu:Int) (tx:ByteArray) (ot:Int):Bool:=
 if uO fd op nu tx ot=false∨Je c fd=false∨(ot≠0∧Je c ot=false) then false
 else if uN fd=false∧uN ot=false then uP c fd op nu tx ot Itm.none
 else L.any fun i=>Jf i && uP c fd op nu tx ot i
open Go.RowKit
structure Sl where
 A:Option Addr
 n:Nat
 c:Nat
abbrev Sl.v (s:Sl):Value:= .slice s.A s.n s.c
structure eD where
 d:Int
 i:Int
 o:Sl
 u:Bool
 n:Int
 ps:Sl
 gs:Sl
structure bB where
 gv:ByteArray
 pa:ByteArray
 dd:Int
 di:Int
 nm:ByteArray
 ro:Int
 mo:Int
 pe:Int
def gB (c:Ctx) (r:eD) (it:Value):Array Value:=#[.int .i64 c.ph, .int .i64 (c.p 0), .int .i64 (c.p 1), .int .i64 (c.p 2), .int .i64 (c.p 3), .int .i64 (c.p 4), .int .i64 (c.p 5), .int .i64 (c.p 6), .int .i64 (c.p 7), .int .i64 r.d, .int .i64 r.i, .string c.comm, .string c.exe,r.o.v, .bool r.u, .int .i64 r.n, .int .i64 (c.a 0), .int .i64 (c.a 1), .int .i64 (c.a 2), .int .i64 (c.a 3),r.ps.v,r.gs.v, .int .i64 c.ex,it, .int .i64 c.ty]
def bf (i:Itm) (r:bB):Array Value:=#[.string r.gv, .string r.pa, .int .i64 r.dd, .int .i64 r.di, .string r.nm, .int .i64 i.dev, .int .i64 i.ino, .int .i64 r.ro, .int .i64 i.kind, .int .i64 r.mo, .int .i64 i.uid, .int .i64 i.gid, .int .i64 r.pe]
abbrev KC (c:Ctx) (r:eD) (it:Value):Value:= .agg (gB c r it)
abbrev EF (i:Itm) (r:bB):Value:= .agg (bf i r)
section
variable {w:World} {g:Nat} {c:Ctx} {r:eD} {it:Value} {i:Itm} {ir:bB}
abbrev ig (w:World) (g:Nat) (c:Ctx) (r:eD) (it:Value):Prop:=Blk w g 54 (gB c r it)
abbrev il (w:World) (g:Nat) (i:Itm) (r:bB):Prop:=Blk w g 73 (bf i r)
theorem ig.a0 (h:ig w g c r it):w.cell? ⟨g,16,none⟩=some (.int .i64 (c.a 0)):=h.cell 16
theorem ig.ex (h:ig w g c r it):w.cell? ⟨g,22,none⟩=some (.int .i64 c.ex):=h.cell 22
theorem ig.ty (h:ig w g c r it):w.cell? ⟨g,24,none⟩=some (.int .i64 c.ty):=h.cell 24
theorem ig.c9 (h:ig w g c r it):w.cell? ⟨g,9,none⟩=some (.int .i64 r.d):=h.cell 9
theorem ig.c10 (h:ig w g c r it):w.cell? ⟨g,10,none⟩=some (.int .i64 r.i):=h.cell 10
theorem ig.items (h:ig w g c r it):w.cell? ⟨g,23,none⟩=some it:=h.cell 23
theorem il.dev (h:il w g i ir):w.cell? ⟨g,5,none⟩=some (.int .i64 i.dev):=h.cell 5
theorem il.ino (h:il w g i ir):w.cell? ⟨g,6,none⟩=some (.int .i64 i.ino):=h.cell 6
theorem il.kind (h:il w g i ir):w.cell? ⟨g,8,none⟩=some (.int .i64 i.kind):=h.cell 8
theorem il.uid (h:il w g i ir):w.cell? ⟨g,10,none⟩=some (.int .i64 i.uid):=h.cell 10
theorem il.gid (h:il w g i ir):w.cell? ⟨g,11,none⟩=some (.int .i64 i.gid):=h.cell 11
theorem qI (c:Ctx) (r:eD) (it:Value):(Tryz.prog.info? 54).map (·.size)=some (gB c r it).size:=by show _=some 25;kernel_rfl
theorem jA (i:Itm) (r:bB):(Tryz.prog.info? 73).map (·.size)=some (bf i r).size:=by show _=some 13;kernel_rfl
end
attribute [local irreducible] gB bf
end Go.Proofs.YtollifnnpihfdaaGreatDoor
namespace Go.Proofs.YtollifnnpihfdaaGreatDoor
def gm (x:ByteArray):Bool:=decide (x.size≠0)
open Go.ChangeShapes Go.WideShapes Go.RowKit
def bD (w:World) (B:Nat) (A:Option Addr) (ss:List ByteArray):Prop:=∀ k (hk:k < ss.length),∃ ad:Addr,A=some ad∧ad.block < B∧w.cell? (ad.add k)=some (.string (ss[k]'hk))
theorem gX (a:Addr) (n:Nat):(a.add n).block=a.block:=by unfold Addr.add;split <;> rfl
theorem bD.keep {w w' :World} {B B' :Nat} {A:Option Addr} {ss:List ByteArray} (h:bD w B A ss) (hb:Below B' w w') (hB:B≤B'):bD w' B A ss:=fun k hk=>by
 obtain ⟨ad,e,hl,hc⟩:=h k hk;exact ⟨ad,e,hl,(hb.cell (by rw [gX];omega)).trans hc⟩
theorem bD.more {w:World} {B B' :Nat} {A:Option Addr} {ss:List ByteArray} (h:bD w B A ss) (hB:B≤B'):bD w B' A ss:=fun k hk=>by
 obtain ⟨ad,e,hl,hc⟩:=h k hk;exact ⟨ad,e,by omega,hc⟩
theorem bD.nil {w:World} {B:Nat} {A:Option Addr} :bD w B A []:=fun k hk=>by simp at hk
def iX (ss:List ByteArray) (m:Nat):Bool:=ss.any fun s=>decide (m < s.size)
theorem uQ {ss:List ByteArray} {m k:Nat} (hk:k < ss.length) (h:m < ss[k].size):iX ss m=true:=by
 unfold iX;rw [List.any_eq_true];exact ⟨ss[k],List.getElem_mem hk,by simpa using h⟩
theorem qJ {ss:List ByteArray} {m:Nat} (h:∀ j (hj:j < ss.length),ss[j].size≤m):iX ss m=false:=by
 unfold iX;rw [List.any_eq_false];intro s hs;obtain ⟨j,hj,rfl⟩:=List.getElem_of_mem hs;simpa using h j hj
theorem Tryz.EH:(Tryz.prog.info? 9).map (fun i=>(i.zero,i.size,i.bytes))=some (some (.string ⟨#[]⟩),1,16):=by kernel_rfl
def bH (w:World) (base:Nat) (v:Value) (L:List ByteArray):Prop:=w.ownsRow base 9 1 v L.length (L.map Value.string)
theorem bH.o {w:World} {base:Nat} {v:Value} {L:List ByteArray} (h:bH w base v L):w.ownsRow base 9 1 v L.length (L.map Value.string):=h
theorem bH.nil (w:World) (base:Nat):bH w base (.slice none 0 0) []:=World.ownsRow_nil _ _ _ _
theorem bH.alloc {w:World} {base:Nat} {v:Value} {L:List ByteArray} (h:bH w base v L) (o:Obj):bH (w.alloc o) base v L:=World.ownsRow.alloc h o
theorem bH.below {w w' :World} {base:Nat} {v:Value} {L:List ByteArray} (h:bH w base v L) (hb:Below w.heap.size w w'):bH w' base v L:=
 World.ownsRow.kept (row:=none) h ⟨hb.os,hb.tape,hb.output,hb.size,fun i hi _=>hb.block i hi⟩ (by
  cases hv:v.ownBlock with
  | none=>exact .inl rfl
  | some k=>exact .inr (by simp))
theorem kF (w:World) (base:Nat) (ty:TypeId) (v:Value) (L:List ByteArray) (B:Nat) (A:Option Addr) (n c:Nat) (ss:List ByteArray) (hn:n=ss.length) (hown:bH w base v L) (hr:bD w B A ss) (hlen:L.length+ss.length≤1000000) (hbase:base≤w.heap.size):
   ∃ v' w',(Builtin.append_ #[49,49] ty #[v, .slice A n c]).run Tryz.prog w= .ok v' w' ∧bH w' base v' (L ++ ss)∧w.grownBy w' v.ownBlock∧(v'.ownBlock=v.ownBlock∨v'.ownBlock=some w.heap.size):=by
 subst hn;obtain ⟨i0,hi,hz0,hz1,hz2⟩:=info_parts Tryz.EH;have h:=hown.o;rcases A with _ | ad
 · have hss:ss= []:=by
     cases ss with
     | nil=>rfl
     | cons s r=>obtain ⟨ad,e,_⟩:=hr 0 (by simp);cases e
   subst hss;refine ⟨v,w,?_,by simpa using hown,World.grownBy.refl w _, .inl rfl⟩;rcases h.2 with ⟨rfl,_⟩ | ⟨g,cap,cur,rfl,_,_,hnc,_⟩
   · simp [Builtin.append_,run_underlying Tryz.underlying49,sizeOf,typeInfo,hi,Builtin.lenOf,Builtin.firstCells]
   · simp [Builtin.append_,run_underlying Tryz.underlying49,sizeOf,typeInfo,hi,Builtin.lenOf,Builtin.firstCells,hnc,storeCells]
 · obtain ⟨v',w',hrun,h2,h3,_,h5⟩:=run_append_own_at (P:=Tryz.prog) w base 49 ty 9 i0 _ 1 16 Tryz.underlying49 hi hz0 hz1 hz2 rfl (by omega) v L.length _ h ad ss.length c (ss.map Value.string) (by simp) (fun j u hu=>by
     have hj:j < ss.length:=(by have:=(List.getElem?_eq_some_iff.1 hu).1;simpa using this);obtain ⟨ad',e,_,hc⟩:=hr j hj;cases e;rw [hc, ← hu,List.getElem?_map,List.getElem?_eq_getElem hj];rfl) (by
     intro u hu;obtain ⟨s,_,rfl⟩:=List.mem_map.1 hu;rfl) (by unfold maxLen;omega) (by omega) hbase
   refine ⟨v',w',hrun,?_,h3,h5⟩;show w'.ownsRow base 9 1 v' (L ++ ss).length ((L ++ ss).map Value.string);simpa using h2
theorem iq {o:Oper} {a:Act} {w:World} {K:Act→World→Prop} {Q:Exit→Act→World→Prop} (s x:Operand) (ho:o.op= .call { callee:= .builtin .append,args:=#[s,x],argTypes:=#[49,49] })
  (base:Nat) (v:Value) (L:List ByteArray) (hs:a.eval s=v) (hown:bH w base v L) (B:Nat) (A:Option Addr) (n c:Nat) (ss:List ByteArray) (hx:a.eval x= .slice A n c) (hn:n=ss.length) (hr:bD w B A ss) (hlen:L.length+ss.length≤1000000) (hbase:base≤w.heap.size)
  (h:∀ v' w',bH w' base v' (L ++ ss)→w.grownBy w' v.ownBlock→(v'.ownBlock=v.ownBlock∨v'.ownBlock=some w.heap.size)→K (a.put o.dst v') w'):o.wp Tryz.prog a w K Q:=by
 obtain ⟨v',w',hrun,h2,h3,h4⟩:=kF w base o.type v L B A n c ss hn hown hr hlen hbase;unfold Oper.wp execOp;simp only [ho,resolve,invoke,builtin,Sem.run_bind,Sem.run_pure,Result.andThen_ok,List.map_toArray,List.map_cons,List.map_nil,hs,hx,hrun];exact h v' w' h2 h3 h4
theorem eU {ops:Array Oper} {rest:List Oper} {o:Oper} {a:Act} {w:World} {Q:Exit→Act→World→Prop} (hgd:o.guard=none) (s x:Operand) (ho:o.op= .call { callee:= .builtin .append,args:=#[s,x],argTypes:=#[49,49] })
  (base:Nat) (v:Value) (L:List ByteArray) (hs:a.eval s=v) (hown:bH w base v L) (B:Nat) (A:Option Addr) (n c:Nat) (ss:List ByteArray) (hx:a.eval x= .slice A n c) (hn:n=ss.length) (hr:bD w B A ss) (hlen:L.length+ss.length≤1000000) (hbase:base≤w.heap.size)
  (h:∀ v' w',bH w' base v' (L ++ ss)→w.grownBy w' v.ownBlock→(v'.ownBlock=v.ownBlock∨v'.ownBlock=some w.heap.size)→wpList Tryz.prog ops Q rest (a.put o.dst v') w'):wpList Tryz.prog ops Q (o :: rest) a w:=
 wpList_plain hgd fun _ hK=>iq s x ho base v L hs hown B A n c ss hx hn hr hlen hbase fun v' w' h2 h3 h4=>hK _ _ (h v' w' h2 h3 h4)
theorem dK {ops:Array Oper} {o:Oper} {a:Act} {w:World} {K:Act→World→Prop} {Q:Exit→Act→World→Prop} {E:Prop} (hgd:o.guard=none) (s x:Operand) (ho:o.op= .call { callee:= .builtin .append,args:=#[s,x],argTypes:=#[49,49] })
  (base:Nat) (v:Value) (L:List ByteArray) (hs:a.eval s=v) (hown:bH w base v L) (B:Nat) (A:Option Addr) (n c:Nat) (ss:List ByteArray) (hx:a.eval x= .slice A n c) (hn:n=ss.length) (hr:bD w B A ss) (hlen:L.length+ss.length≤1000000) (hbase:base≤w.heap.size)
  (h:∀ v' w',bH w' base v' (L ++ ss)→w.grownBy w' v.ownBlock→(v'.ownBlock=v.ownBlock∨v'.ownBlock=some w.heap.size)→K (a.put o.dst v') w'):
  if Region.wanted o (yielded ops a.tmps)=true then Oper.wp Tryz.prog o a w K Q else E:=by
 have hw:Region.wanted o (yielded ops a.tmps)=true:=by simp [Region.wanted,hgd]
 rw [if_pos hw];exact iq s x ho base v L hs hown B A n c ss hx hn hr hlen hbase h
theorem bH.ge {w:World} {base:Nat} {v:Value} {L:List ByteArray} (h:bH w base v L):∀ r,v.ownBlock=some r→base≤r:=fun r hr=>(World.ownsRow.lt h r hr).1
theorem bH.strs {w:World} {base:Nat} {v:Value} {L:List ByteArray} (h:bH w base v L):∃ A c,v= .slice A L.length c∧bD w w.heap.size A L:=by
 rcases Joins.ownsRow_forms h.o with ⟨rfl,h0⟩ | ⟨g,cap,rfl⟩
 · have:L= []:=List.eq_nil_of_length_eq_zero h0;subst this;exact ⟨none,0,rfl,bD.nil⟩
 · refine ⟨_,cap,rfl,fun k hk=>⟨_,rfl,(h.o.lt g rfl).2,?_⟩⟩;exact World.ownsRow.cells h (g:=g) rfl k _ (by rw [List.getElem?_map,List.getElem?_eq_getElem hk];rfl)
theorem uR (w:World) (x:ByteArray) (t:TypeId):bD (w.alloc (.cells #[.string x] t)) (w.heap.size+1) (some ⟨w.heap.size,0,none⟩) [x]:=fun k hk=>by
 have hk:k=0:=by simp at hk;omega
 subst hk;exact ⟨_,rfl,by show w.heap.size < _;omega,by show World.cell? _ ⟨w.heap.size,0,none⟩=_;rw [(Blk.new w #[.string x] t).cell];rfl⟩
theorem bH.lQ {w w1 wr w2:World} {v v' :Value} {L L' :List ByteArray} (ho:bH w1 w.heap.size v L) (hb:Below w.heap.size w wr) {o:Obj} (hw:w1=wr.alloc o) (hg:w1.grownBy w2 v.ownBlock) (_h:bH w2 w.heap.size v' L'):Below w.heap.size w w2:=by
 subst hw;have h1:=hb.alloc hb.size o;exact h1.grown hg (by have:=hb.size;simp;omega) (fun r hr=>ho.ge r hr)
theorem oh (D:List ByteArray) (x:ByteArray):(D ++ [x]).filter gm=D.filter gm ++ (if x.size=0 then [] else [x]):=by
 rw [List.filter_append];congr 1;by_cases h:x.size=0
 · simp [gm,h]
 · simp [gm,h]
theorem om {D:List ByteArray} {x:ByteArray} (h:x.size≠0):(D ++ [x]).filter gm=D.filter gm ++ [x]:=by rw [oh,if_neg h]
theorem oo {D:List ByteArray} {x:ByteArray} (h:x.size=0):(D ++ [x]).filter gm=D.filter gm:=by rw [oh,if_pos h,List.append_nil]
def EI (s:ByteArray) (w:World) (e:Ending) (w' :World):Prop:=∃ (v:Value) (L:List ByteArray) (a b:Bool),e= .returned (.tuple #[v, .bool a, .bool b])∧IsW 47 s L∧bH w' w.heap.size v (L.filter gm)∧Below w.heap.size w w'
theorem xW (D:List ByteArray):(D.filter gm).length≤D.length:=List.length_filter_le _ _
theorem uS (s:ByteArray) (w:World) (hs:s.size≤100000):Calls Tryz.prog 192 #[.string s] w (EI s w):=by
 go_in;go_wp2_with fail;go_loopw [5,6,7] (fun v m i wr=>∃ (D:List ByteArray) (mk ik:Nat),m= .int .i64 (mk:Int)∧i= .int .i64 (ik:Int)∧bH wr w.heap.size v (D.filter gm)∧Below w.heap.size w wr∧Hid ((ik≤s.size∧gN 47 s D mk ik)∨(ik=s.size+1∧IsW 47 s D))∧D.length≤100001∧mk≤s.size+1) (fun _ _ i _=>s.size+2 - (intOf i).toNat);case atStart=>exact ⟨[],0,0,rfl,rfl,bH.nil _ _,Below.refl _ _,Hd (.inl ⟨Nat.zero_le _,gN.start 47 s⟩),by simp,by omega⟩
 case round=>
  obtain ⟨D,mk,ik,rfl,rfl,hown,hb,hst,hD,hm⟩:=hrel;have hfl:=xW D;by_cases hle:ik≤s.size
  · have hc:gN 47 s D mk ik:=by
      rcases hst.o with ⟨_,h⟩ | ⟨h,_⟩
      · exact h
      · omega
    have h1:=hc.le;have h3:=hc.count;have HST:=Hd hc;clear hst hc;by_cases hlt:ik < s.size
    · have n1:((ik:Int) == (s.size:Int))=false:=(by rw [beq_eq_false_iff_ne];omega);by_cases hcc:s[ik]=47
      · have t1:((s[ik].toNat:Int) == 47)=true:=(by rw [hcc];rfl);have HC:=Hd (HST.o.cut hlt hcc);clear hcc;by_cases hem:mk < ik
        · have HF:=Hd (om (D:=D) (x:=s.extract mk ik) (by rw [ByteArray.size_extract];omega));go_wp2_with (at_builtin;refine eU rfl (.tmp 27) (.tmp 32) rfl w.heap.size _ (D.filter gm) rfl (hown.alloc _) (wr.heap.size+1) (some ⟨wr.heap.size,0,none⟩) 1 1 [s.extract mk ik] rfl rfl (uR wr _ 9) (by simp;omega) (by have:=hb.size;simp;omega) ?_;intro v4 w4 rE hg4 xX);have hb4:=bH.lQ (hown.alloc _) hb rfl hg4 rE;clear hg4 xX hb hown;go_wp2_with fail;go_roundw;case rel=>exact ⟨D ++ [s.extract mk ik],ik+1,ik+1,by go_num,by go_num,by rw [HF.o];exact rE,hb4,Hd (.inl ⟨by omega,HC.o⟩),by rw [List.length_append,List.length_singleton];omega,by omega⟩
          case measure=>simp [intOf];omega
        · have HF:=Hd (oo (D:=D) (x:=s.extract mk ik) (by rw [ByteArray.size_extract];omega));go_wp2_with fail;go_roundw;case rel=>exact ⟨D ++ [s.extract mk ik],ik+1,ik+1,by go_num,by go_num,by rw [HF.o];exact hown,hb,Hd (.inl ⟨by omega,HC.o⟩),by rw [List.length_append,List.length_singleton];omega,by omega⟩
          case measure=>simp [intOf];omega
      · have t1:((s[ik].toNat:Int) == 47)=false:=by
          rw [beq_eq_false_iff_ne];intro e;exact hcc (UInt8.toNat_inj.1 (by show s[ik].toNat=47;omega))
        have HC:=Hd (HST.o.next hlt hcc);clear hcc;go_wp2_with fail;go_roundw;case rel=>exact ⟨D,mk,ik+1,rfl,by go_num,hown,hb,Hd (.inl ⟨by omega,HC.o⟩),hD,hm⟩
        case measure=>simp [intOf];omega
    · obtain rfl:ik=s.size:=(by omega);have n1:((s.size:Int) == (s.size:Int))=true:=(by simp);have HC:=Hd HST.o.done;by_cases hem:mk < s.size
      · have HF:=Hd (om (D:=D) (x:=s.extract mk s.size) (by rw [ByteArray.size_extract];omega));go_wp2_with (at_builtin;refine eU rfl (.tmp 27) (.tmp 32) rfl w.heap.size _ (D.filter gm) rfl (hown.alloc _) (wr.heap.size+1) (some ⟨wr.heap.size,0,none⟩) 1 1 [s.extract mk s.size] rfl rfl (uR wr _ 9) (by simp;omega) (by have:=hb.size;simp;omega) ?_;intro v4 w4 rE hg4 xX);have hb4:=bH.lQ (hown.alloc _) hb rfl hg4 rE;clear hg4 xX hb hown;go_wp2_with fail;go_roundw;case rel=>exact ⟨D ++ [s.extract mk s.size],s.size+1,s.size+1,by go_num,by go_num,by rw [HF.o];exact rE,hb4,Hd (.inr ⟨rfl,HC.o⟩),by rw [List.length_append,List.length_singleton];omega,by omega⟩
        case measure=>simp [intOf]
      · have HF:=Hd (oo (D:=D) (x:=s.extract mk s.size) (by rw [ByteArray.size_extract];omega));go_wp2_with fail;go_roundw;case rel=>exact ⟨D ++ [s.extract mk s.size],s.size+1,s.size+1,by go_num,by go_num,by rw [HF.o];exact hown,hb,Hd (.inr ⟨rfl,HC.o⟩),by rw [List.length_append,List.length_singleton];omega,by omega⟩
        case measure=>simp [intOf]
  · have hw:IsW 47 s D:=by
      rcases hst.o with ⟨h,_⟩ | ⟨_,h⟩
      · omega
      · exact h
    have HW:=Hd hw;clear hst hw;go_wp2_with fail;by_cases hz:0 < s.size
    · have d1:decide ((0:Int) < (s.size:Int))=true:=decide_eq_true (by omega);have z0:(0:Int) < (s.size:Int):=(by omega);have z1:(1:Int)≤(s.size:Int):=(by omega);have z2:s.size - 1 < s.size:=(by omega);have c0:(0:Int)≤(s.size:Int) - 1:=(by omega);have c1:(s.size:Int) - 1 < (s.size:Int):=(by omega);have c2:IntKind.i64.wrap ((s.size:Int) - 1)=(s.size:Int) - 1:=IntWalk.i64_in _ (by omega);have c3:((s.size:Int) - 1).toNat=s.size - 1:=(by omega);go_quiet (fail);go_wp2_with fail;refine bodyPost_ret (v:= .tuple #[_, .bool _, .bool _]) (by simp [results,Tryz.results192,go_sem];exact ⟨rfl,rfl,rfl⟩) rfl ?_;exact ⟨_,D,_,_,rfl,HW.o,hown.below (below_drewN (Below.refl _ _) _),below_drewN hb _⟩
    · have d1:decide ((0:Int) < (s.size:Int))=false:=decide_eq_false (by omega);go_quiet (fail);go_wp2_with fail;refine bodyPost_ret (v:= .tuple #[_, .bool _, .bool _]) (by simp [results,Tryz.results192,go_sem];exact ⟨rfl,rfl,rfl⟩) rfl ?_;exact ⟨_,D,_,_,rfl,HW.o,hown.below (below_drewN (Below.refl _ _) _),below_drewN hb _⟩
attribute [local irreducible] dS cO
theorem ym:(Tryz.prog.info? 147).map (·.size)=some 5:=by kernel_rfl
theorem qN (w:World) (g:Nat) (t:TypeId) (cs:Array Value) (tmps:Array Value) (hp:tmps.getD 2 undef= .pointer (some ⟨g,0,none⟩)) (h:Blk w g t cs) (h5:cs.size=5):
  (results Tryz.f63 tmps).run Tryz.prog w= .ok (.agg cs) w:=
 results_cell_row (p:=2) (ty:=147) rfl tmps w g t cs (0,0) _ hp h Tryz.underlying147 rfl (by rw [h5];exact ym)
theorem yn (z:Int) (hz:z < 0) (w:World):Calls Tryz.prog 63 #[.int .i64 z] w fun e w' =>e= .returned (ko.val .i64 ⟨⟨#[]⟩,0,0,0,0⟩)∧Below w.heap.size w w' :=by
 go_in;go_wp2_with fail;refine bodyPost_ret (v:=ko.val .i64 ⟨⟨#[]⟩,0,0,0,0⟩) ?_ rfl ?_
 · simp [results,Tryz.results63,go_sem,ko.val]
 · exact ⟨rfl,(Below.refl _ _).alloc (Nat.le_refl _) _⟩
theorem rM (z:Int) (hz:22≤z) (w:World):Calls Tryz.prog 63 #[.int .i64 z] w fun e w' =>e= .returned (ko.val .i64 ⟨⟨#[]⟩,0,0,0,0⟩)∧Below w.heap.size w w' :=by
 go_in;go_wp2_with fail;refine (zN _).mono ?_;rintro e w1 ⟨rfl,hb⟩;have HG:Blk w1 w.heap.size 147 _:=(Blk.new w _ _).keep (boxed hb) (by omega);have q0:=HG.cell 0;have f0:=HG.free 0;have q1:=HG.cell 1;have f1:=HG.free 1;have q2:=HG.cell 2;have f2:=HG.free 2;have q3:=HG.cell 3;have f3:=HG.free 3;have q4:=HG.cell 4;have f4:=HG.free 4;go_wp2_with fail;refine bodyPost_ret (qN _ _ _ _ _ rfl (((((HG.put 0 _).put 1 _).put 2 _).put 3 _).put 4 _) rfl) rfl ?_;exact ⟨rfl,(((((nM hb).setCell (Nat.le_refl _) _).setCell (Nat.le_refl _) _).setCell (Nat.le_refl _) _).setCell (Nat.le_refl _) _).setCell (Nat.le_refl _) _⟩
theorem Bz (n:Nat) (hn:n < 22) (w:World):Calls Tryz.prog 63 #[.int .i64 (n:Int)] w fun e w' =>e= .returned (ko.val .i64 (dS n))∧Below w.heap.size w w' :=by
 obtain ⟨k0,k1,k2,k3,k4⟩:=oG .i64 n hn;go_in;go_wp2_with fail;refine (zN _).mono ?_;rintro e w1 ⟨rfl,hb⟩;have HH:=Hd (show Blk w1 w.heap.size 147 _ from (Blk.new w _ _).keep (boxed hb) (by omega));have HB:=Hd (nM hb);clear hb;go_wp2_with fail;refine (zM _).mono ?_;rintro e w2 ⟨rfl,hg,hb2⟩;have HG:=HH.o.below hb2;have HB2:=Hd (HB.o.trans (hb2.mono HB.o.size));have c0:=(hg.cell (n * 5)).trans k0;have c1:=(hg.cell (n * 5+1)).trans k1;have c2:=(hg.cell (n * 5+2)).trans k2;have c3:=(hg.cell (n * 5+3)).trans k3;have c4:=(hg.cell (n * 5+4)).trans k4;have q0:=HG.cell 0;have f0:=HG.free 0;have q1:=HG.cell 1;have f1:=HG.free 1;have q2:=HG.cell 2;have f2:=HG.free 2;have q3:=HG.cell 3;have f3:=HG.free 3;have q4:=HG.cell 4;have f4:=HG.free 4;clear hg k0 k1 k2 k3 k4 HH HB hb2;have HR:=Hd (show ko.val .i64 (dS n)= .agg #[.string (dS n).name, .int .i64 (dS n).nums, .int .i64 (dS n).kN, .int .i64 (dS n).least, .int .i64 (dS n).most] from rfl);go_wp2_with fail;refine bodyPost_ret (qN _ _ _ _ _ rfl (((((HG.put 0 _).put 1 _).put 2 _).put 3 _).put 4 _) rfl) rfl ?_;exact ⟨by rw [HR.o];rfl,(((((HB2.o).setCell (Nat.le_refl _) _).setCell (Nat.le_refl _) _).setCell (Nat.le_refl _) _).setCell (Nat.le_refl _) _).setCell (Nat.le_refl _) _⟩
theorem qO {z:Int} (h:z < 0):bZ z=⟨⟨#[]⟩,0,0,0,0⟩:=if_pos h
theorem lX {z:Int} (h:22≤z):bZ z=⟨⟨#[]⟩,0,0,0,0⟩:=by
 unfold bZ;rw [if_neg (by omega)];unfold dS;rw [List.getD_eq_getElem?_getD,List.getElem?_eq_none (by show mX.length≤_;have:mX.length=22:=rfl;omega)];rfl
theorem iY (n:Nat):bZ (n:Int)=dS n:=by unfold bZ;rw [if_neg (by omega),Int.toNat_natCast]
theorem Jo (z:Int) (w:World):Calls Tryz.prog 63 #[.int .i64 z] w fun e w' =>e= .returned (ko.val .i64 (bZ z))∧Below w.heap.size w w' :=by
 by_cases h0:z < 0
 · rw [qO h0];exact yn z h0 w
 · by_cases h1:22≤z
   · rw [lX h1];exact rM z h1 w
   · obtain ⟨n,rfl⟩:=Int.eq_ofNat_of_zero_le (show 0≤z by omega);rw [iY];exact Bz n (by omega) w
theorem Jp (z:Int) (w:World):Calls Tryz.prog 24 #[.int .i64 z] w fun e w' =>e= .returned (.string (bZ z).name)∧Below w.heap.size w w' :=by
 have HG:=Hd (Jo z);generalize bZ z=r at *;obtain ⟨nm,a,b,c,d⟩:=r;go_in;go_wp2_with fail;refine (HG.o _).mono ?_;rintro e w1 ⟨rfl,hb⟩;unfold ko.val;have hf:∀ w,(Instr.field 147 (.agg #[.string nm, .int .i64 a, .int .i64 b, .int .i64 c, .int .i64 d]) 0).run Tryz.prog w= .ok (.string nm) w:=fun _=>by kernel_rfl
 go_wp2_with fail;go_ret;exact ⟨rfl,hb⟩
theorem EW (z:Int) (w:World):Calls Tryz.prog 87 #[.int .i64 z] w fun e w' =>e= .returned (.tuple #[.int .i64 (bZ z).nums, .int .i64 (bZ z).kN, .int .i64 (bZ z).least, .int .i64 (bZ z).most])∧Below w.heap.size w w' :=by
 have HG:=Hd (Jo z);generalize bZ z=r at *;obtain ⟨nm,a,b,c,d⟩:=r;go_in;go_wp2_with fail;refine (HG.o _).mono ?_;rintro e w1 ⟨rfl,hb⟩;unfold ko.val;go_wp2_with fail;go_quiet (fail);go_wp2_with fail;refine bodyPost_ret (oH rfl _ _ _) rfl ?_;exact ⟨rfl,below_drewN (hb.alloc hb.size _) _⟩
end Go.Proofs.YtollifnnpihfdaaGreatDoor
namespace Go.Proofs.YtollifnnpihfdaaGreatDoor
def dl (n:Nat):Nat:=(Lib.decDigits n).length
structure Tst where
 fd:Int
 op:Int
 nu:Int
 tx:ByteArray
 ot:Int
structure Rul where
 li:Int
 ac:Int
 ca:Nat
 ts:List Tst
 wa:Int
 pa:ByteArray
 pe:Int
 ke:ByteArray
def JM:Rul:=⟨0,0,0, [],0,⟨#[]⟩,0,⟨#[]⟩⟩
def Tst.ev (c:Ctx) (is:List Itm) (t:Tst):Bool:=xS c is t.fd t.op t.nu t.tx t.ot
def vO (c:Ctx) (n:Int) (is:List Itm) (hit:Bool) (r:Rul):Bool:=(r.ca == 0 || hasB r.ca n) && ((r.wa == 0 || hit) && r.ts.all (Tst.ev c is))
def zT (rs:List Rul) (l:Int) (c:Ctx) (n:Int) (is:List Itm):Option Nat:=rs.findIdx? fun r=>r.li == l && vO c n is false r
def zU (t:Int):Bool:=t == 1005 || t == 1300 || t == 1306 || t == 1307 || t == 1302 || t == 1309
def pU (rs:List Rul) (c:Ctx) (n:Int) (is:List Itm) (t:Int):Bool:=
 zU t && match zT rs 5 { c with ty:=t } n is with | some i=>(rs[i]?.map (fun r=>r.ac == 1)).getD false | none=>false
end Go.Proofs.YtollifnnpihfdaaGreatDoor
