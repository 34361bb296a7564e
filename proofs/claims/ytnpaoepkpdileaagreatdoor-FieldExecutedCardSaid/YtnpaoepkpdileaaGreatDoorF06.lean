import Derived.Test.YtnpaoepkpdileaaGreatDoorF04
set_option maxRecDepth 100000
set_option maxHeartbeats 64000000
set_option linter.all false
namespace Go.Proofs.YtnpaoepkpdileaaGreatDoor
open Go.RowKit
theorem jk (w:World) (cs ds:Array Value) (s t:TypeId):Below w.heap.size w ((w.alloc (.cells cs s)).alloc (.cells ds t)):=((Below.refl w.heap.size w).alloc (Nat.le_refl _) _).alloc (by simp) _
theorem EK (f:List Dv) (dev ino:Int):bV f dev ino=match aM f dev ino with | some n=>n.kind == 2 | none=>false:=rfl
def gJ (f:List Dv) (dev ino:Int):Bool:=match aM f dev ino with | some n=>(n.es.length:Int) == 0 | none=>true
def jN (f:List Dv) (dev ino:Int):Bool:=match aM f dev ino with | some n=>decide ((12:Int)≤n.es.length) | none=>false
def aX (f:List Dv) (dev ino:Int) (nm:ByteArray):Int:=
 match aM f dev ino with
 | none=>2
 | some n=>if n.kind == 2 then (if eB nm=true then 0 else 22) else 20
def nK (l:List En) (nm:ByteArray):Option En:=l.find? (fun x=>x.nm.toList == nm.toList)
def dn (f:List Dv) (dev ino:Int) (nm:ByteArray):Int×(Int×Int):=
 match aM f dev ino with
 | none=>(2,0,0)
 | some n=>if n.kind == 2 then (match nK n.es nm with | some x=>(0,dev,x.ino) | none=>(2,0,0)) else (20,0,0)
theorem sP {l:List En} {nm:ByteArray} (h:∀ k (hk:k < l.length),(l[k].nm.toList == nm.toList)=false):nK l nm=none:=by
 unfold nK;rw [List.find?_eq_none];intro x hx;obtain ⟨k,hk,rfl⟩:=List.getElem_of_mem hx;rw [h k hk];decide
theorem sQ {l:List En} {nm:ByteArray} {k:Nat} (hk:k < l.length) (h:∀ j (hj:j < k),(l[j].nm.toList == nm.toList)=false) (he:(l[k].nm.toList == nm.toList)=true):nK l nm=some l[k]:=by
 unfold nK;rw [List.find?_eq_some_iff_getElem];exact ⟨he,k,hk,rfl,fun j hj=>by rw [h j hj];decide⟩
theorem jl (dev ino:Int) (ds:List Dm) (A:Option Addr) (n c:Nat) (hn:n=ds.length) (w:World) (h:dO w w.heap.size A ds):
  Calls Tryz.prog 77 #[fsV A n c,flV dev ino] w fun e w' =>e= .returned (.bool (bV (ds.map Dm.dv) dev ino))∧Below w.heap.size w w' :=by
 have B0:=Hd (jk w #[.slice A n c] #[.int .i64 dev, .int .i64 ino] 39 26);have HN:=Hd (bL dev ino ds A n c hn _ (h.below B0.o));have HD:=Hd (show bV (ds.map Dm.dv) dev ino=match aM (ds.map Dm.dv) dev ino with | some n=>n.kind == 2 | none=>false from rfl);clear h hn;go_in;go_wp2_with fail;refine HN.o.mono ?_;intro e w1 hp;cases hq:aM (ds.map Dm.dv) dev ino with
 | none=>
  rw [hq] at hp;obtain ⟨rfl,hb⟩:=hp;have B1:=Hd (B0.o.trans (hb.mono B0.o.size));have HR:=Hd (HD.o.trans (by rw [hq]));clear hb hq HN HD;go_wp2_with fail;go_ret;exact ⟨by rw [HR.o];rfl,B1.o.alloc B1.o.size _⟩
 | some nd=>
  rw [hq] at hp;obtain ⟨A2,c2,rfl,ho,hb,hsz⟩:=hp;have B1:=Hd (B0.o.trans (hb.mono B0.o.size));have HR:=Hd (HD.o.trans (by rw [hq]));clear hb hq HN HD ho hsz;go_wp2_with fail;go_ret;exact ⟨by rw [HR.o];rfl,B1.o.alloc B1.o.size _⟩
theorem sS (dev ino:Int) (ds:List Dm) (A:Option Addr) (n c:Nat) (hn:n=ds.length) (w:World) (h:dO w w.heap.size A ds):
  Calls Tryz.prog 124 #[fsV A n c,flV dev ino] w fun e w' =>e= .returned (.bool (gJ (ds.map Dm.dv) dev ino))∧Below w.heap.size w w' :=by
 have B0:=Hd (jk w #[.slice A n c] #[.int .i64 dev, .int .i64 ino] 39 26);have HN:=Hd (bL dev ino ds A n c hn _ (h.below B0.o));have HD:=Hd (show gJ (ds.map Dm.dv) dev ino=match aM (ds.map Dm.dv) dev ino with | some n=>(n.es.length:Int) == 0 | none=>true from rfl);clear h hn;go_in;go_wp2_with fail;refine HN.o.mono ?_;intro e w1 hp;cases hq:aM (ds.map Dm.dv) dev ino with
 | none=>
  rw [hq] at hp;obtain ⟨rfl,hb⟩:=hp;have B1:=Hd (B0.o.trans (hb.mono B0.o.size));have HR:=Hd (HD.o.trans (by rw [hq]));clear hb hq HN HD;go_wp2_with fail;go_ret;exact ⟨by rw [HR.o];rfl,B1.o.alloc B1.o.size _⟩
 | some nd=>
  rw [hq] at hp;obtain ⟨A2,c2,rfl,ho,hb,hsz⟩:=hp;have B1:=Hd (B0.o.trans (hb.mono B0.o.size));have HR:=Hd (HD.o.trans (by rw [hq]));clear hb hq HN HD ho hsz;go_wp2_with fail;go_ret;exact ⟨by rw [HR.o];rfl,B1.o.alloc B1.o.size _⟩
theorem sU (dev ino:Int) (ds:List Dm) (A:Option Addr) (n c:Nat) (hn:n=ds.length) (w:World) (h:dO w w.heap.size A ds):
  Calls Tryz.prog 119 #[fsV A n c,flV dev ino] w fun e w' =>e= .returned (.bool (jN (ds.map Dm.dv) dev ino))∧Below w.heap.size w w' :=by
 have B0:=Hd (jk w #[.slice A n c] #[.int .i64 dev, .int .i64 ino] 39 26);have HN:=Hd (bL dev ino ds A n c hn _ (h.below B0.o));have HD:=Hd (show jN (ds.map Dm.dv) dev ino=match aM (ds.map Dm.dv) dev ino with | some n=>decide ((12:Int)≤n.es.length) | none=>false from rfl);clear h hn;go_in;go_wp2_with fail;refine HN.o.mono ?_;intro e w1 hp;cases hq:aM (ds.map Dm.dv) dev ino with
 | none=>
  rw [hq] at hp;obtain ⟨rfl,hb⟩:=hp;have B1:=Hd (B0.o.trans (hb.mono B0.o.size));have HR:=Hd (HD.o.trans (by rw [hq]));clear hb hq HN HD;go_wp2_with fail;go_ret;exact ⟨by rw [HR.o];rfl,B1.o.alloc B1.o.size _⟩
 | some nd=>
  rw [hq] at hp;obtain ⟨A2,c2,rfl,ho,hb,hsz⟩:=hp;have B1:=Hd (B0.o.trans (hb.mono B0.o.size));have HR:=Hd (HD.o.trans (by rw [hq]));clear hb hq HN HD ho hsz;go_wp2_with fail;go_ret;exact ⟨by rw [HR.o];rfl,B1.o.alloc B1.o.size _⟩
end Go.Proofs.YtnpaoepkpdileaaGreatDoor
