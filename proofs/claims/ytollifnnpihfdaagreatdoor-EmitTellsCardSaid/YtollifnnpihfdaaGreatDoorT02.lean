import Derived.Test.YtollifnnpihfdaaGreatDoorT01
import Derived.Lib.BufferRead
import Derived.Lib.SmallJoins
import Derived.WalkSpells
import Derived.WalkLawsBesides
import Derived.Test.YtollifnnpihfdaaGreatDoorSh
import Derived.Lib.AppendIntMem
import Derived.BigQuiet
import Derived.Test.YtollifnnpihfdaaGreatDoorRows
set_option maxRecDepth 100000
set_option maxHeartbeats 64000000
set_option linter.all false
namespace Go.Proofs.YtollifnnpihfdaaGreatDoor
theorem sF (s:ByteArray) (k:Nat) (h:k < s.size):s.data.toList.take (k+1)=s.data.toList.take k ++ [s[k]]:=by
 rw [List.take_succ_eq_append_getElem (by simpa using h)];rfl
theorem qd (s:ByteArray) (k:Nat) (h:s.size≤k):s.data.toList.take k=s.data.toList:=
 List.take_of_length_le (by simpa using h)
abbrev bv (c:UInt8):Value:= .int .u8 (c.toNat:Int)
open Go.RowKit
theorem below_drewN {B:Nat} {a w:World} (h:Below B a w) (n:Nat):Below B a (w.drewN n):=⟨h.os,h.tape,h.output,h.size,h.block⟩
theorem aa {a b c:World} (h:Below a.heap.size a b) (k:Below b.heap.size b c):Below a.heap.size a c:=h.trans (k.mono h.size)
def sG (w:World) (g:Nat) (cs:Array Value):Prop:=∃ tt fr,w.heap[g]? =some (.cells cs tt fr)
theorem sG.lt {w:World} {g:Nat} {cs:Array Value} (h:sG w g cs):g < w.heap.size:=by
 obtain ⟨tt,fr,h⟩:=h;rcases Nat.lt_or_ge g w.heap.size with hlt | hge
 · exact hlt
 · rw [Array.getElem?_eq_none hge] at h;cases h
theorem sG.cell {w:World} {g:Nat} {cs:Array Value} (h:sG w g cs) (i:Nat):w.cell? ⟨g,i,none⟩=cs[i]? :=by
 obtain ⟨tt,fr,h⟩:=h;exact cell_of_row w g i cs tt fr h
theorem sG.below {B:Nat} {w w' :World} {g:Nat} {cs:Array Value} (h:sG w g cs) (hb:Below B w w') (hB:w.heap.size≤B):sG w' g cs:=by
 have hlt:=h.lt;obtain ⟨tt,fr,h⟩:=h;exact ⟨tt,fr,(hb.block g (by omega)).trans h⟩
abbrev I9 (nm:ByteArray) (kd nu:Int) (tx:ByteArray):Value:= .agg #[.string nm, .int .i64 kd, .int .i64 nu, .string tx]
def hasB (m:Nat) (n:Int):Bool:=decide (0≤n) && decide (n < 32) && m.testBit n.toNat
def LM (c:UInt8):Bool:=decide (48≤c.toNat) && decide (c.toNat≤57)
def LP (l:List UInt8):Nat:=l.foldl (fun v c=>10 * v+(c.toNat - 48)) 0
def EG (l:List UInt8):Bool:=decide (1≤l.length) && decide (l.length≤4) && !(l.head? == some 48 && decide (1 < l.length))
def Jg (s:ByteArray):Option Nat:=if EG s.data.toList && s.data.toList.all LM then some (LP s.data.toList) else none
def xV (c:UInt8) (s:ByteArray):List ByteArray:=Lib.splitB ⟨#[c]⟩ 0 (Lib.countB s ⟨#[c]⟩) s
def Jh:List ByteArray→Option (Nat×Nat)
 | [x]=>(Jg x).map fun n=>(n,n)
 | [x,y]=>match Jg x,Jg y with
  | some a,some b=>if a≤b then some (a,b) else none
  | _,_=>none
 | _=>none
def Ji (s:ByteArray):Option (Nat×Nat):=Jh (xV 45 s)
def nums (x:ByteArray):List Nat:=match Ji x with
 | some (a,b)=>List.range' a (min (b+1) 32 - a)
 | none=> []
structure ko where
 name:ByteArray
 nums:Nat
 kN:Nat
 least:Nat
 most:Nat
def mX:List ko:= [
 ⟨⟨#[102,111,114,107]⟩,0,0,0,0⟩,
 ⟨⟨#[101,120,101,99,118,101]⟩,0,1,0,4⟩,
 ⟨⟨#[101,120,105,116]⟩,1,0,0,0⟩,
 ⟨⟨#[115,101,116,117,105,100]⟩,1,0,0,0⟩,
 ⟨⟨#[115,101,116,103,105,100]⟩,1,0,0,0⟩,
 ⟨⟨#[108,111,103,105,110]⟩,1,0,0,0⟩,
 ⟨⟨#[111,112,101,110]⟩,2,1,0,0⟩,
 ⟨⟨#[99,108,111,115,101]⟩,1,0,0,0⟩,
 ⟨⟨#[108,105,110,107]⟩,0,2,0,0⟩,
 ⟨⟨#[115,121,109,108,105,110,107]⟩,0,1,1,1⟩,
 ⟨⟨#[117,110,108,105,110,107]⟩,0,1,0,0⟩,
 ⟨⟨#[109,107,100,105,114]⟩,1,1,0,0⟩,
 ⟨⟨#[114,109,100,105,114]⟩,0,1,0,0⟩,
 ⟨⟨#[114,101,110,97,109,101]⟩,0,2,0,0⟩,
 ⟨⟨#[99,104,109,111,100]⟩,1,1,0,0⟩,
 ⟨⟨#[99,104,111,119,110]⟩,2,1,0,0⟩,
 ⟨⟨#[99,104,100,105,114]⟩,0,1,0,0⟩,
 ⟨⟨#[109,111,117,110,116]⟩,1,1,0,0⟩,
 ⟨⟨#[117,109,111,117,110,116]⟩,1,0,0,0⟩,
 ⟨⟨#[99,111,110,110,101,99,116]⟩,1,0,1,1⟩,
 ⟨⟨#[107,105,108,108]⟩,2,0,0,0⟩,
 ⟨⟨#[116,114,117,110,99,97,116,101]⟩,1,1,0,0⟩]
def ko.cells (k:IntKind) (r:ko):List Value:= [.string r.name, .int k r.nums, .int k r.kN, .int k r.least, .int k r.most]
def ko.val (k:IntKind) (r:ko):Value:= .agg #[.string r.name, .int k r.nums, .int k r.kN, .int k r.least, .int k r.most]
def dS (n:Nat):ko:=mX.getD n ⟨⟨#[]⟩,0,0,0,0⟩
def bZ (z:Int):ko:=if z < 0 then ⟨⟨#[]⟩,0,0,0,0⟩ else dS z.toNat
def cO (k:IntKind):Array Value:=((mX.map (ko.cells k)).flatten).toArray
theorem oG (k:IntKind) (n:Nat) (h:n < 22):(cO k)[n * 5]? =some (.string (dS n).name)∧(cO k)[n * 5+1]? =some (.int k (dS n).nums)∧(cO k)[n * 5+2]? =some (.int k (dS n).kN)∧(cO k)[n * 5+3]? =some (.int k (dS n).least)∧(cO k)[n * 5+4]? =some (.int k (dS n).most):=by
 have H:∀ m:Fin 22,(cO k)[m.val * 5]? =some (.string (dS m).name)∧(cO k)[m.val * 5+1]? =some (.int k (dS m).nums)∧(cO k)[m.val * 5+2]? =some (.int k (dS m).kN)∧(cO k)[m.val * 5+3]? =some (.int k (dS m).least)∧(cO k)[m.val * 5+4]? =some (.int k (dS m).most):=by
  intro m
  match m with
  | ⟨0,_⟩=>exact ⟨rfl,rfl,rfl,rfl,rfl⟩
  | ⟨1,_⟩=>exact ⟨rfl,rfl,rfl,rfl,rfl⟩
  | ⟨2,_⟩=>exact ⟨rfl,rfl,rfl,rfl,rfl⟩
  | ⟨3,_⟩=>exact ⟨rfl,rfl,rfl,rfl,rfl⟩
  | ⟨4,_⟩=>exact ⟨rfl,rfl,rfl,rfl,rfl⟩
  | ⟨5,_⟩=>exact ⟨rfl,rfl,rfl,rfl,rfl⟩
  | ⟨6,_⟩=>exact ⟨rfl,rfl,rfl,rfl,rfl⟩
  | ⟨7,_⟩=>exact ⟨rfl,rfl,rfl,rfl,rfl⟩
  | ⟨8,_⟩=>exact ⟨rfl,rfl,rfl,rfl,rfl⟩
  | ⟨9,_⟩=>exact ⟨rfl,rfl,rfl,rfl,rfl⟩
  | ⟨10,_⟩=>exact ⟨rfl,rfl,rfl,rfl,rfl⟩
  | ⟨11,_⟩=>exact ⟨rfl,rfl,rfl,rfl,rfl⟩
  | ⟨12,_⟩=>exact ⟨rfl,rfl,rfl,rfl,rfl⟩
  | ⟨13,_⟩=>exact ⟨rfl,rfl,rfl,rfl,rfl⟩
  | ⟨14,_⟩=>exact ⟨rfl,rfl,rfl,rfl,rfl⟩
  | ⟨15,_⟩=>exact ⟨rfl,rfl,rfl,rfl,rfl⟩
  | ⟨16,_⟩=>exact ⟨rfl,rfl,rfl,rfl,rfl⟩
  | ⟨17,_⟩=>exact ⟨rfl,rfl,rfl,rfl,rfl⟩
  | ⟨18,_⟩=>exact ⟨rfl,rfl,rfl,rfl,rfl⟩
  | ⟨19,_⟩=>exact ⟨rfl,rfl,rfl,rfl,rfl⟩
  | ⟨20,_⟩=>exact ⟨rfl,rfl,rfl,rfl,rfl⟩
  | ⟨21,_⟩=>exact ⟨rfl,rfl,rfl,rfl,rfl⟩
  | ⟨m+22,h⟩=>omega
 exact H ⟨n,h⟩
theorem rH (n:Nat):(dS n).nums≤2∧(dS n).kN≤2∧(dS n).least≤1∧(dS n).most≤4∧(dS n).name.size≤8:=by
 by_cases h:n < 22
 · have H:∀ m:Fin 22,(dS m).nums≤2∧(dS m).kN≤2∧(dS m).least≤1∧(dS m).most≤4∧(dS m).name.size≤8:=(by decide+kernel);exact H ⟨n,h⟩
 · have:dS n=⟨⟨#[]⟩,0,0,0,0⟩:=by
    unfold dS;rw [List.getD_eq_getElem?_getD,List.getElem?_eq_none (by show 22≤n;omega)];rfl
   rw [this];decide
def Calls10 (w:World):Prop:=sG w 2 (cO .u8)
theorem Calls10.below {B:Nat} {w w' :World} (h:Calls10 w) (hb:Below B w w') (hB:w.heap.size≤B):Calls10 w' :=sG.below h hb hB
def eF (z:Int):Bool:=decide (0≤z) && decide (z < 22)
attribute [local irreducible] dS cO
theorem uY (z:Int) (w:World):Calls Tryz.prog 155 #[.int .i64 z] w fun e w' =>e= .returned (.bool (eF z))∧w=w' :=by
 by_cases h0:0≤z
 · by_cases h1:z < 22
   · have H:=Hd (show eF z=true by unfold eF;simp [h0,h1]);go_in
     go_wp2
     go_ret;exact ⟨by rw [H.o];rfl,rfl⟩
   · have H:=Hd (show eF z=false by unfold eF;simp;omega);go_in
     go_wp2
     go_ret;exact ⟨by rw [H.o];rfl,rfl⟩
 · have H:=Hd (show eF z=false by unfold eF;simp;omega);go_in
   go_wp2
   go_ret;exact ⟨by rw [H.o];rfl,rfl⟩
theorem Jn (n:Nat) (hn:n < 22) (w:World) (hc:Calls10 w):Calls Tryz.prog 92 #[.int .i64 (n:Int)] w fun e w' =>e= .returned (.string (dS n).name)∧w=w' :=by
 have hx:eF (n:Int)=true:=by unfold eF;simp;omega
 have HX:=Hd hx;have c0:=(hc.cell (n * 5)).trans (oG .u8 n hn).1;clear hc hx;go_in;go_wp2_with fail;refine (uY _ _).mono ?_;rintro e w' ⟨rfl,rfl⟩;rw [HX.o];go_wp2_with fail;go_ret;exact ⟨rfl,rfl⟩
theorem uZ (z:Int) (hz:z < 0∨22≤z) (w:World):Calls Tryz.prog 92 #[.int .i64 z] w fun e w' =>e= .returned (.string ⟨#[]⟩)∧w=w' :=by
 have HX:=Hd (show eF z=false by unfold eF;simp;omega);clear hz;go_in;go_wp2_with fail;refine (uY _ _).mono ?_;rintro e w' ⟨rfl,rfl⟩;rw [HX.o];go_wp2_with fail;go_ret;exact ⟨rfl,rfl⟩
end Go.Proofs.YtollifnnpihfdaaGreatDoor
namespace Go.Proofs.YtollifnnpihfdaaGreatDoor
open Go.RowKit
theorem rJ:cO .i64=#[.string ⟨#[102,111,114,107]⟩, .int .i64 0, .int .i64 0, .int .i64 0, .int .i64 0, .string ⟨#[101,120,101,99,118,101]⟩, .int .i64 0, .int .i64 1, .int .i64 0, .int .i64 4, .string ⟨#[101,120,105,116]⟩, .int .i64 1, .int .i64 0, .int .i64 0, .int .i64 0, .string ⟨#[115,101,116,117,105,100]⟩, .int .i64 1, .int .i64 0, .int .i64 0, .int .i64 0, .string ⟨#[115,101,116,103,105,100]⟩, .int .i64 1, .int .i64 0, .int .i64 0, .int .i64 0, .string ⟨#[108,111,103,105,110]⟩, .int .i64 1, .int .i64 0, .int .i64 0, .int .i64 0, .string ⟨#[111,112,101,110]⟩, .int .i64 2, .int .i64 1, .int .i64 0, .int .i64 0, .string ⟨#[99,108,111,115,101]⟩, .int .i64 1, .int .i64 0, .int .i64 0, .int .i64 0, .string ⟨#[108,105,110,107]⟩, .int .i64 0, .int .i64 2, .int .i64 0, .int .i64 0, .string ⟨#[115,121,109,108,105,110,107]⟩, .int .i64 0, .int .i64 1, .int .i64 1, .int .i64 1, .string ⟨#[117,110,108,105,110,107]⟩, .int .i64 0, .int .i64 1, .int .i64 0, .int .i64 0, .string ⟨#[109,107,100,105,114]⟩, .int .i64 1, .int .i64 1, .int .i64 0, .int .i64 0, .string ⟨#[114,109,100,105,114]⟩, .int .i64 0, .int .i64 1, .int .i64 0, .int .i64 0, .string ⟨#[114,101,110,97,109,101]⟩, .int .i64 0, .int .i64 2, .int .i64 0, .int .i64 0, .string ⟨#[99,104,109,111,100]⟩, .int .i64 1, .int .i64 1, .int .i64 0, .int .i64 0, .string ⟨#[99,104,111,119,110]⟩, .int .i64 2, .int .i64 1, .int .i64 0, .int .i64 0, .string ⟨#[99,104,100,105,114]⟩, .int .i64 0, .int .i64 1, .int .i64 0, .int .i64 0, .string ⟨#[109,111,117,110,116]⟩, .int .i64 1, .int .i64 1, .int .i64 0, .int .i64 0, .string ⟨#[117,109,111,117,110,116]⟩, .int .i64 1, .int .i64 0, .int .i64 0, .int .i64 0, .string ⟨#[99,111,110,110,101,99,116]⟩, .int .i64 1, .int .i64 0, .int .i64 1, .int .i64 1, .string ⟨#[107,105,108,108]⟩, .int .i64 2, .int .i64 0, .int .i64 0, .int .i64 0, .string ⟨#[116,114,117,110,99,97,116,101]⟩, .int .i64 1, .int .i64 1, .int .i64 0, .int .i64 0]:=rfl
attribute [local irreducible] cO dS
theorem zM (w:World):Calls Tryz.prog 110 #[] w fun e w' =>e= .returned (.slice (some ⟨w.heap.size,0,none⟩) 22 22)∧sG w' w.heap.size (cO .i64)∧Below w.heap.size w w' :=by
 go_in
 go_wp2
 go_ret;exact ⟨rfl,⟨147,(0,0),(heap_alloc_new w _).trans (congrArg (fun c=>some (Obj.cells c 147 (0,0))) rJ.symm)⟩,(Below.refl _ _).alloc (Nat.le_refl _) _⟩
end Go.Proofs.YtollifnnpihfdaaGreatDoor
namespace Go.Proofs.YtollifnnpihfdaaGreatDoor
open Go.RowKit
theorem oH {fn:Func} {a b c d:Tmp} (h:fn.results=#[.tmp a, .tmp b, .tmp c, .tmp d]) (tmps:Array Value) (P:Program) (w:World):
  (results fn tmps).run P w= .ok (.tuple #[tmps.getD a undef,tmps.getD b undef,tmps.getD c undef,tmps.getD d undef]) w:=by
 simp [results,h]
attribute [local irreducible] dS cO
theorem zN (w:World):Calls Tryz.prog 109 #[] w fun e w' =>e= .returned (.int .i64 22)∧Below w.heap.size w w' :=by
 go_in;go_wp2_with fail;refine (zM _).mono ?_;rintro e w1 ⟨rfl,_,hb⟩;go_wp2_with fail;go_ret;exact ⟨rfl,hb⟩
end Go.Proofs.YtollifnnpihfdaaGreatDoor
namespace Go.Proofs.YtollifnnpihfdaaGreatDoor
open Go.ChangeShapes Go.WideShapes Go.RowKit Go.Joins Go.Deep
theorem chunks {α:Type} {c:Nat} :∀ {L:List (List α)} {cs:List α},cs.length=L.length * c→(∀ i (hi:i < L.length),(cs.drop (i * c)).take c=L[i])→cs=L.flatten
 | [],cs,h,_=>by simp at h;simp [h]
 | x :: L,cs,h,hi=>by
  have h0:=hi 0 (by simp);simp at h0;have hr:cs.drop c=L.flatten:=chunks (c:=c) (by rw [List.length_drop,h,List.length_cons,Nat.add_mul];omega) (fun i hlt=>by
   have:=hi (i+1) (by simp;omega);rw [List.drop_drop,show c+i * c=(i+1) * c by rw [Nat.add_mul];omega];simpa using this)
  rw [List.flatten_cons, ← hr, ← h0,List.take_append_drop]
section
variable {H:Type} {enc:TypeId×Value→H} {P:Program} {w:World} {base:Nat} {sp:Nat→Bool} {held:Bool}
theorem oM {cs:List Value} {j:Nat} {v:Value} (h:(cs.drop j).take 1= [v]):cs[j]? =some v:=by
 have:=congrArg (·[0]?) h;simpa [List.getElem?_take,List.getElem?_drop] using this
theorem aI {fuel:Nat} {t:TypeId} {f0 f1 f2 f3 f4:Field} {k:IntKind} {cs:List Value} {l:List UInt8} {a b c d:Int} {p:List MemPlace} (hs:P.underlying t=some (.struct #[f0,f1,f2,f3,f4])) (hone:oneCellFields P #[f0,f1,f2,f3,f4]=true) (hC:P.cellsOf t=5)
  (h0:P.underlying f0.type=some .string) (h1:P.underlying f1.type=some (.int k)) (h2:P.underlying f2.type=some (.int k)) (h3:P.underlying f3.type=some (.int k)) (h4:P.underlying f4.type=some (.int k))
  (h:DataW.trod enc P w base sp held fuel t cs=some (.agg [.lit (.string l), .lit (.int k a), .lit (.int k b), .lit (.int k c), .lit (.int k d)],p)):cs= [.string ⟨l.toArray⟩, .int k a, .int k b, .int k c, .int k d]:=by
 obtain ⟨xs,n,_,hx,hl,hlen,hg⟩:=DataW.trod_struct hs h;obtain ⟨o0,k0⟩:=hone_of hone 0 f0 rfl;obtain ⟨o1,k1⟩:=hone_of hone 1 f1 rfl;obtain ⟨o2,k2⟩:=hone_of hone 2 f2 rfl;obtain ⟨o3,k3⟩:=hone_of hone 3 f3 rfl;obtain ⟨o4,k4⟩:=hone_of hone 4 f4 rfl
 match xs,hlen with
 | [y0,y1,y2,y3,y4],_=>
  simp only [Prod.mk.injEq] at hx;have hx1:=hx.1;simp at hx1;obtain ⟨e0,e1,e2,e3,e4⟩:=hx1;have g0:=hg 0 f0 rfl;have g1:=hg 1 f1 rfl;have g2:=hg 2 f2 rfl;have g3:=hg 3 f3 rfl;have g4:=hg 4 f4 rfl;rw [o0,k0] at g0;rw [o1,k1] at g1;rw [o2,k2] at g2;rw [o3,k3] at g3;rw [o4,k4] at g4;simp only [List.getElem?_cons_zero,List.getElem?_cons_succ] at g0 g1 g2 g3 g4;obtain ⟨s,c0,z0,_⟩:=DataW.trod_string h0 g0;obtain ⟨n1,c1,z1,_⟩:=DataW.trod_int h1 g1;obtain ⟨n2,c2,z2,_⟩:=DataW.trod_int h2 g2;obtain ⟨n3,c3,z3,_⟩:=DataW.trod_int h3 g3;obtain ⟨n4,c4,z4,_⟩:=DataW.trod_int h4 g4;rw [z0] at e0;rw [z1] at e1;rw [z2] at e2;rw [z3] at e3;rw [z4] at e4;simp at e0 e1 e2 e3 e4;have q0:=oM c0;have q1:=oM c1;have q2:=oM c2;have q3:=oM c3;have q4:=oM c4;subst e1 e2 e3 e4;have es:s=⟨l.toArray⟩:=by rw [e0]
  subst es
  match cs,hl.trans hC with
  | [x0,x1,x2,x3,x4],_=>
   simp at q0 q1 q2 q3 q4;rw [q0,q1,q2,q3,q4]
theorem vN {fuel n c:Nat} {t e:TypeId} {cs:List Value} {ds:List (DataW H)} {p:List MemPlace} {L:List (List Value)} (ht:P.underlying t=some (.array n e)) (hce:P.cellsOf e=c) (hct:P.cellsOf t=n * c) (hL:L.length=n)
  (h:DataW.trod enc P w base sp held fuel t cs=some (.agg ds,p))
  (hel:∀ i (hi:i < L.length) m cs' d q,ds[i]? =some d→DataW.trod enc P w base sp held m e cs' =some (d,q)→cs' =L[i]):cs=L.flatten:=by
 obtain ⟨xs,m,_,hx,hl,hlen,hg⟩:=DataW.trod_array ht h;simp only [Prod.mk.injEq] at hx;have hx1:=hx.1;simp at hx1;refine chunks (c:=c) (by rw [hl,hct,hL]) fun i hi=>?_;have:=hg i (by omega);rw [hce] at this;have hxi:xs[i]? =some (xs[i]'(by omega)):=List.getElem?_eq_getElem (by omega);rw [hxi] at this;exact hel i hi m _ _ _ (by rw [hx1,List.getElem?_map,hxi];rfl) this
theorem oN {P:Program} {W:World} {laid:List (String×DataW Unit)} {name:String} {ds:List (DataW Unit)} {g n c:Nat} {t e:TypeId} {L:List (List Value)} {cs:Array Value} (i:Nat)
   (hpl:(laid.all fun x=>x.2.handleName?.isNone)=true) (h:laidMetH P laid W) (hi:laid[i]? =some (name, .agg ds))
   (hg:P.globalNamed name=some g) (hty:(P.globals[g]?).map (·.type)=some t) (ht:P.underlying t=some (.array n e)) (hce:P.cellsOf e=c) (hct:P.cellsOf t=n * c) (hL:L.length=n) (hcs:cs=L.flatten.toArray)
   (hel:∀ (w:World) i (hi:i < L.length) m cs' d q,ds[i]? =some d→DataW.trod (fun _=>()) P w 0 (fun _=>true) false m e cs' =some (d,q)→cs' =L[i]):sG W g cs:=by
 rw [MakeChecks.laidMetH_plain _ _ _ hpl] at h;obtain ⟨ps,hv,_⟩:=h;obtain ⟨g',t',cs',fuel,p,hg',ht',hvar,hd⟩:=sD hv i name _ hi;obtain rfl:=Option.some.inj (hg.symm.trans hg');obtain rfl:=Option.some.inj (hty.symm.trans ht');have hc:=vN ht hce hct hL hd (hel W);unfold World.var? at hvar;rw [hg] at hvar;simp only [Option.bind_some] at hvar;split at hvar
 · rename_i cs2 tt fr he;injection hvar with hvar;subst hvar;refine ⟨tt,fr,by rw [he,hcs, ← hc]⟩
 · cases hvar
end
theorem cells_of_row (w:World) (i:Nat) (hi:i < (mX.map (ko.cells .u8)).length) (m:Nat) (cs' :List Value) (d:DataW Unit) (q:List MemPlace) (ds:List (DataW Unit)) (hds:DataW.agg ds=Rows.laid_kaudit_call_calls) (hd:ds[i]? =some d) (ht:DataW.trod (fun _=>()) Tryz.prog w 0 (fun _=>true) false m 237 cs' =some (d,q)):cs' =(mX.map (ko.cells .u8))[i]:=by
 have H:∀ k:Fin 22,ds[k.val]? =some d→cs' =(mX.map (ko.cells .u8))[k.val]'(by have:(mX.map (ko.cells .u8)).length=22:=rfl;omega):=by
  unfold Rows.laid_kaudit_call_calls at hds;injection hds with hds;subst hds;intro k hd
  match k with
  | ⟨0,_⟩=>exact aI Tryz.underlying237 (by kernel_rfl) (by kernel_rfl) Tryz.underlying9 Tryz.underlying5 Tryz.underlying5 Tryz.underlying5 Tryz.underlying5 (by cases hd;exact ht)
  | ⟨1,_⟩=>exact aI Tryz.underlying237 (by kernel_rfl) (by kernel_rfl) Tryz.underlying9 Tryz.underlying5 Tryz.underlying5 Tryz.underlying5 Tryz.underlying5 (by cases hd;exact ht)
  | ⟨2,_⟩=>exact aI Tryz.underlying237 (by kernel_rfl) (by kernel_rfl) Tryz.underlying9 Tryz.underlying5 Tryz.underlying5 Tryz.underlying5 Tryz.underlying5 (by cases hd;exact ht)
  | ⟨3,_⟩=>exact aI Tryz.underlying237 (by kernel_rfl) (by kernel_rfl) Tryz.underlying9 Tryz.underlying5 Tryz.underlying5 Tryz.underlying5 Tryz.underlying5 (by cases hd;exact ht)
  | ⟨4,_⟩=>exact aI Tryz.underlying237 (by kernel_rfl) (by kernel_rfl) Tryz.underlying9 Tryz.underlying5 Tryz.underlying5 Tryz.underlying5 Tryz.underlying5 (by cases hd;exact ht)
  | ⟨5,_⟩=>exact aI Tryz.underlying237 (by kernel_rfl) (by kernel_rfl) Tryz.underlying9 Tryz.underlying5 Tryz.underlying5 Tryz.underlying5 Tryz.underlying5 (by cases hd;exact ht)
  | ⟨6,_⟩=>exact aI Tryz.underlying237 (by kernel_rfl) (by kernel_rfl) Tryz.underlying9 Tryz.underlying5 Tryz.underlying5 Tryz.underlying5 Tryz.underlying5 (by cases hd;exact ht)
  | ⟨7,_⟩=>exact aI Tryz.underlying237 (by kernel_rfl) (by kernel_rfl) Tryz.underlying9 Tryz.underlying5 Tryz.underlying5 Tryz.underlying5 Tryz.underlying5 (by cases hd;exact ht)
  | ⟨8,_⟩=>exact aI Tryz.underlying237 (by kernel_rfl) (by kernel_rfl) Tryz.underlying9 Tryz.underlying5 Tryz.underlying5 Tryz.underlying5 Tryz.underlying5 (by cases hd;exact ht)
  | ⟨9,_⟩=>exact aI Tryz.underlying237 (by kernel_rfl) (by kernel_rfl) Tryz.underlying9 Tryz.underlying5 Tryz.underlying5 Tryz.underlying5 Tryz.underlying5 (by cases hd;exact ht)
  | ⟨10,_⟩=>exact aI Tryz.underlying237 (by kernel_rfl) (by kernel_rfl) Tryz.underlying9 Tryz.underlying5 Tryz.underlying5 Tryz.underlying5 Tryz.underlying5 (by cases hd;exact ht)
  | ⟨11,_⟩=>exact aI Tryz.underlying237 (by kernel_rfl) (by kernel_rfl) Tryz.underlying9 Tryz.underlying5 Tryz.underlying5 Tryz.underlying5 Tryz.underlying5 (by cases hd;exact ht)
  | ⟨12,_⟩=>exact aI Tryz.underlying237 (by kernel_rfl) (by kernel_rfl) Tryz.underlying9 Tryz.underlying5 Tryz.underlying5 Tryz.underlying5 Tryz.underlying5 (by cases hd;exact ht)
  | ⟨13,_⟩=>exact aI Tryz.underlying237 (by kernel_rfl) (by kernel_rfl) Tryz.underlying9 Tryz.underlying5 Tryz.underlying5 Tryz.underlying5 Tryz.underlying5 (by cases hd;exact ht)
  | ⟨14,_⟩=>exact aI Tryz.underlying237 (by kernel_rfl) (by kernel_rfl) Tryz.underlying9 Tryz.underlying5 Tryz.underlying5 Tryz.underlying5 Tryz.underlying5 (by cases hd;exact ht)
  | ⟨15,_⟩=>exact aI Tryz.underlying237 (by kernel_rfl) (by kernel_rfl) Tryz.underlying9 Tryz.underlying5 Tryz.underlying5 Tryz.underlying5 Tryz.underlying5 (by cases hd;exact ht)
  | ⟨16,_⟩=>exact aI Tryz.underlying237 (by kernel_rfl) (by kernel_rfl) Tryz.underlying9 Tryz.underlying5 Tryz.underlying5 Tryz.underlying5 Tryz.underlying5 (by cases hd;exact ht)
  | ⟨17,_⟩=>exact aI Tryz.underlying237 (by kernel_rfl) (by kernel_rfl) Tryz.underlying9 Tryz.underlying5 Tryz.underlying5 Tryz.underlying5 Tryz.underlying5 (by cases hd;exact ht)
  | ⟨18,_⟩=>exact aI Tryz.underlying237 (by kernel_rfl) (by kernel_rfl) Tryz.underlying9 Tryz.underlying5 Tryz.underlying5 Tryz.underlying5 Tryz.underlying5 (by cases hd;exact ht)
  | ⟨19,_⟩=>exact aI Tryz.underlying237 (by kernel_rfl) (by kernel_rfl) Tryz.underlying9 Tryz.underlying5 Tryz.underlying5 Tryz.underlying5 Tryz.underlying5 (by cases hd;exact ht)
  | ⟨20,_⟩=>exact aI Tryz.underlying237 (by kernel_rfl) (by kernel_rfl) Tryz.underlying9 Tryz.underlying5 Tryz.underlying5 Tryz.underlying5 Tryz.underlying5 (by cases hd;exact ht)
  | ⟨21,_⟩=>exact aI Tryz.underlying237 (by kernel_rfl) (by kernel_rfl) Tryz.underlying9 Tryz.underlying5 Tryz.underlying5 Tryz.underlying5 Tryz.underlying5 (by cases hd;exact ht)
  | ⟨k+22,h⟩=>exact absurd h (by omega)
 exact H ⟨i,hi⟩ hd
theorem calls_of_laid {W : World} {laid : List (String × DataW Unit)} (i : Nat) (hpl : (laid.all fun x => x.2.handleName?.isNone) = true) (h : laidMetH Tryz.prog laid W) (hi : laid[i]? = some ("kaudit/call.calls", Rows.laid_kaudit_call_calls)) : Calls10 W :=
 oN (t:=238) (e:=237) (c:=5) (n:=22) (L:=mX.map (ko.cells .u8)) i hpl h hi rfl (by kernel_rfl) Tryz.underlying238 (by kernel_rfl) (by kernel_rfl) rfl rfl (fun w i hi m cs' d q hd ht=>cells_of_row w i hi m cs' d q _ rfl hd ht)
end Go.Proofs.YtollifnnpihfdaaGreatDoor
