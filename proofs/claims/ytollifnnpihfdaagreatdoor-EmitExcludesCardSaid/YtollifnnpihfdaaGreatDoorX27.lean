import Derived.Test.YtollifnnpihfdaaGreatDoorX13
set_option maxRecDepth 100000
set_option maxHeartbeats 64000000
set_option linter.all false
namespace Go.Proofs.YtollifnnpihfdaaGreatDoor
open Go.RowKit
structure kL where
 name:ByteArray
 nums:Nat
 kU:Nat
 least:Nat
 most:Nat
def nD:List kL:= [
 ⟨⟨#[102,111,114,107]⟩,0,0,0,0⟩,
 ⟨⟨#[101,120,101,99,118,101]⟩,0,1,0,4⟩,
 ⟨⟨#[101,120,105,116]⟩,1,0,0,0⟩,
 ⟨⟨#[115,101,116,117,105,100]⟩,1,0,0,0⟩,
 ⟨⟨#[115,101,116,103,105,100]⟩,1,0,0,0⟩,
 ⟨⟨#[108,111,103,105,110]⟩,1,0,0,0⟩,
 ⟨⟨#[111,112,101,110]⟩,2,1,0,0⟩,
 ⟨⟨#[99,108,111,115,101]⟩,1,0,0,0⟩,
 ⟨⟨#[108,105,110,107]⟩,0,2,0,0⟩,
 ⟨⟨#[115,121,109,108,105,110,107]⟩,0,1,1,1⟩,
 ⟨⟨#[117,110,108,105,110,107]⟩,0,1,0,0⟩,
 ⟨⟨#[109,107,100,105,114]⟩,1,1,0,0⟩,
 ⟨⟨#[114,109,100,105,114]⟩,0,1,0,0⟩,
 ⟨⟨#[114,101,110,97,109,101]⟩,0,2,0,0⟩,
 ⟨⟨#[99,104,109,111,100]⟩,1,1,0,0⟩,
 ⟨⟨#[99,104,111,119,110]⟩,2,1,0,0⟩,
 ⟨⟨#[99,104,100,105,114]⟩,0,1,0,0⟩,
 ⟨⟨#[109,111,117,110,116]⟩,1,1,0,0⟩,
 ⟨⟨#[117,109,111,117,110,116]⟩,1,0,0,0⟩,
 ⟨⟨#[99,111,110,110,101,99,116]⟩,1,0,1,1⟩,
 ⟨⟨#[107,105,108,108]⟩,2,0,0,0⟩,
 ⟨⟨#[116,114,117,110,99,97,116,101]⟩,1,1,0,0⟩]
def kL.cells (k:IntKind) (r:kL):List Value:= [.string r.name, .int k r.nums, .int k r.kU, .int k r.least, .int k r.most]
def kL.val (k:IntKind) (r:kL):Value:= .agg #[.string r.name, .int k r.nums, .int k r.kU, .int k r.least, .int k r.most]
def eF (n:Nat):kL:=nD.getD n ⟨⟨#[]⟩,0,0,0,0⟩
def dI (z:Int):kL:=if z < 0 then ⟨⟨#[]⟩,0,0,0,0⟩ else eF z.toNat
def df (k:IntKind):Array Value:=((nD.map (kL.cells k)).flatten).toArray
theorem oU (k:IntKind) (n:Nat) (h:n < 22):(df k)[n * 5]? =some (.string (eF n).name)∧(df k)[n * 5+1]? =some (.int k (eF n).nums)∧(df k)[n * 5+2]? =some (.int k (eF n).kU)∧(df k)[n * 5+3]? =some (.int k (eF n).least)∧(df k)[n * 5+4]? =some (.int k (eF n).most):=by
 have H:∀ m:Fin 22,(df k)[m.val * 5]? =some (.string (eF m).name)∧(df k)[m.val * 5+1]? =some (.int k (eF m).nums)∧(df k)[m.val * 5+2]? =some (.int k (eF m).kU)∧(df k)[m.val * 5+3]? =some (.int k (eF m).least)∧(df k)[m.val * 5+4]? =some (.int k (eF m).most):=by
  intro m
  match m with
  | ⟨0,_⟩=>exact ⟨rfl,rfl,rfl,rfl,rfl⟩
  | ⟨1,_⟩=>exact ⟨rfl,rfl,rfl,rfl,rfl⟩
  | ⟨2,_⟩=>exact ⟨rfl,rfl,rfl,rfl,rfl⟩
  | ⟨3,_⟩=>exact ⟨rfl,rfl,rfl,rfl,rfl⟩
  | ⟨4,_⟩=>exact ⟨rfl,rfl,rfl,rfl,rfl⟩
  | ⟨5,_⟩=>exact ⟨rfl,rfl,rfl,rfl,rfl⟩
  | ⟨6,_⟩=>exact ⟨rfl,rfl,rfl,rfl,rfl⟩
  | ⟨7,_⟩=>exact ⟨rfl,rfl,rfl,rfl,rfl⟩
  | ⟨8,_⟩=>exact ⟨rfl,rfl,rfl,rfl,rfl⟩
  | ⟨9,_⟩=>exact ⟨rfl,rfl,rfl,rfl,rfl⟩
  | ⟨10,_⟩=>exact ⟨rfl,rfl,rfl,rfl,rfl⟩
  | ⟨11,_⟩=>exact ⟨rfl,rfl,rfl,rfl,rfl⟩
  | ⟨12,_⟩=>exact ⟨rfl,rfl,rfl,rfl,rfl⟩
  | ⟨13,_⟩=>exact ⟨rfl,rfl,rfl,rfl,rfl⟩
  | ⟨14,_⟩=>exact ⟨rfl,rfl,rfl,rfl,rfl⟩
  | ⟨15,_⟩=>exact ⟨rfl,rfl,rfl,rfl,rfl⟩
  | ⟨16,_⟩=>exact ⟨rfl,rfl,rfl,rfl,rfl⟩
  | ⟨17,_⟩=>exact ⟨rfl,rfl,rfl,rfl,rfl⟩
  | ⟨18,_⟩=>exact ⟨rfl,rfl,rfl,rfl,rfl⟩
  | ⟨19,_⟩=>exact ⟨rfl,rfl,rfl,rfl,rfl⟩
  | ⟨20,_⟩=>exact ⟨rfl,rfl,rfl,rfl,rfl⟩
  | ⟨21,_⟩=>exact ⟨rfl,rfl,rfl,rfl,rfl⟩
  | ⟨m+22,h⟩=>omega
 exact H ⟨n,h⟩
theorem rW (n:Nat):(eF n).nums≤2∧(eF n).kU≤2∧(eF n).least≤1∧(eF n).most≤4∧(eF n).name.size≤8:=by
 by_cases h:n < 22
 · have H:∀ m:Fin 22,(eF m).nums≤2∧(eF m).kU≤2∧(eF m).least≤1∧(eF m).most≤4∧(eF m).name.size≤8:=(by decide+kernel);exact H ⟨n,h⟩
 · have:eF n=⟨⟨#[]⟩,0,0,0,0⟩:=by
    unfold eF;rw [List.getD_eq_getElem?_getD,List.getElem?_eq_none (by show 22≤n;omega)];rfl
   rw [this];decide
def Calls10 (w:World):Prop:=sS w 2 (df .u8)
theorem Calls10.below {B:Nat} {w w' :World} (h:Calls10 w) (hb:Below B w w') (hB:w.heap.size≤B):Calls10 w' :=sS.below h hb hB
def eH (z:Int):Bool:=decide (0≤z) && decide (z < 22)
attribute [local irreducible] eF df
theorem vE (z:Int) (w:World):Calls Tryz.prog 155 #[.int .i64 z] w fun e w' =>e= .returned (.bool (eH z))∧w=w' :=by
 by_cases h0:0≤z
 · by_cases h1:z < 22
   · have H:=Hd (show eH z=true by unfold eH;simp [h0,h1]);go_in
     go_wp2
     go_ret;exact ⟨by rw [H.o];rfl,rfl⟩
   · have H:=Hd (show eH z=false by unfold eH;simp;omega);go_in
     go_wp2
     go_ret;exact ⟨by rw [H.o];rfl,rfl⟩
 · have H:=Hd (show eH z=false by unfold eH;simp;omega);go_in
   go_wp2
   go_ret;exact ⟨by rw [H.o];rfl,rfl⟩
theorem J2 (n:Nat) (hn:n < 22) (w:World) (hc:Calls10 w):Calls Tryz.prog 92 #[.int .i64 (n:Int)] w fun e w' =>e= .returned (.string (eF n).name)∧w=w' :=by
 have hx:eH (n:Int)=true:=by unfold eH;simp;omega
 have HX:=Hd hx;have c0:=(hc.cell (n * 5)).trans (oU .u8 n hn).1;clear hc hx;go_in;go_wp2_with fail;refine (vE _ _).mono ?_;rintro e w' ⟨rfl,rfl⟩;rw [HX.o];go_wp2_with fail;go_ret;exact ⟨rfl,rfl⟩
theorem vF (z:Int) (hz:z < 0∨22≤z) (w:World):Calls Tryz.prog 92 #[.int .i64 z] w fun e w' =>e= .returned (.string ⟨#[]⟩)∧w=w' :=by
 have HX:=Hd (show eH z=false by unfold eH;simp;omega);clear hz;go_in;go_wp2_with fail;refine (vE _ _).mono ?_;rintro e w' ⟨rfl,rfl⟩;rw [HX.o];go_wp2_with fail;go_ret;exact ⟨rfl,rfl⟩
end Go.Proofs.YtollifnnpihfdaaGreatDoor
namespace Go.Proofs.YtollifnnpihfdaaGreatDoor
open Go.RowKit
theorem rX:df .i64=#[.string ⟨#[102,111,114,107]⟩, .int .i64 0, .int .i64 0, .int .i64 0, .int .i64 0, .string ⟨#[101,120,101,99,118,101]⟩, .int .i64 0, .int .i64 1, .int .i64 0, .int .i64 4, .string ⟨#[101,120,105,116]⟩, .int .i64 1, .int .i64 0, .int .i64 0, .int .i64 0, .string ⟨#[115,101,116,117,105,100]⟩, .int .i64 1, .int .i64 0, .int .i64 0, .int .i64 0, .string ⟨#[115,101,116,103,105,100]⟩, .int .i64 1, .int .i64 0, .int .i64 0, .int .i64 0, .string ⟨#[108,111,103,105,110]⟩, .int .i64 1, .int .i64 0, .int .i64 0, .int .i64 0, .string ⟨#[111,112,101,110]⟩, .int .i64 2, .int .i64 1, .int .i64 0, .int .i64 0, .string ⟨#[99,108,111,115,101]⟩, .int .i64 1, .int .i64 0, .int .i64 0, .int .i64 0, .string ⟨#[108,105,110,107]⟩, .int .i64 0, .int .i64 2, .int .i64 0, .int .i64 0, .string ⟨#[115,121,109,108,105,110,107]⟩, .int .i64 0, .int .i64 1, .int .i64 1, .int .i64 1, .string ⟨#[117,110,108,105,110,107]⟩, .int .i64 0, .int .i64 1, .int .i64 0, .int .i64 0, .string ⟨#[109,107,100,105,114]⟩, .int .i64 1, .int .i64 1, .int .i64 0, .int .i64 0, .string ⟨#[114,109,100,105,114]⟩, .int .i64 0, .int .i64 1, .int .i64 0, .int .i64 0, .string ⟨#[114,101,110,97,109,101]⟩, .int .i64 0, .int .i64 2, .int .i64 0, .int .i64 0, .string ⟨#[99,104,109,111,100]⟩, .int .i64 1, .int .i64 1, .int .i64 0, .int .i64 0, .string ⟨#[99,104,111,119,110]⟩, .int .i64 2, .int .i64 1, .int .i64 0, .int .i64 0, .string ⟨#[99,104,100,105,114]⟩, .int .i64 0, .int .i64 1, .int .i64 0, .int .i64 0, .string ⟨#[109,111,117,110,116]⟩, .int .i64 1, .int .i64 1, .int .i64 0, .int .i64 0, .string ⟨#[117,109,111,117,110,116]⟩, .int .i64 1, .int .i64 0, .int .i64 0, .int .i64 0, .string ⟨#[99,111,110,110,101,99,116]⟩, .int .i64 1, .int .i64 0, .int .i64 1, .int .i64 1, .string ⟨#[107,105,108,108]⟩, .int .i64 2, .int .i64 0, .int .i64 0, .int .i64 0, .string ⟨#[116,114,117,110,99,97,116,101]⟩, .int .i64 1, .int .i64 1, .int .i64 0, .int .i64 0]:=rfl
attribute [local irreducible] df eF
theorem z8 (w:World):Calls Tryz.prog 110 #[] w fun e w' =>e= .returned (.slice (some ⟨w.heap.size,0,none⟩) 22 22)∧sS w' w.heap.size (df .i64)∧Below w.heap.size w w' :=by
 go_in
 go_wp2
 go_ret;exact ⟨rfl,⟨147,(0,0),(heap_alloc_new w _).trans (congrArg (fun c=>some (Obj.cells c 147 (0,0))) rX.symm)⟩,(Below.refl _ _).alloc (Nat.le_refl _) _⟩
end Go.Proofs.YtollifnnpihfdaaGreatDoor
namespace Go.Proofs.YtollifnnpihfdaaGreatDoor
open Go.RowKit
theorem oV {fn:Func} {a b c d:Tmp} (h:fn.results=#[.tmp a, .tmp b, .tmp c, .tmp d]) (tmps:Array Value) (P:Program) (w:World):
  (results fn tmps).run P w= .ok (.tuple #[tmps.getD a undef,tmps.getD b undef,tmps.getD c undef,tmps.getD d undef]) w:=by
 simp [results,h]
attribute [local irreducible] eF df
theorem Ac (w:World):Calls Tryz.prog 109 #[] w fun e w' =>e= .returned (.int .i64 22)∧Below w.heap.size w w' :=by
 go_in;go_wp2_with fail;refine (z8 _).mono ?_;rintro e w1 ⟨rfl,_,hb⟩;go_wp2_with fail;go_ret;exact ⟨rfl,hb⟩
end Go.Proofs.YtollifnnpihfdaaGreatDoor
namespace Go.Proofs.YtollifnnpihfdaaGreatDoor
open Go.RowKit
attribute [local irreducible] eF df
theorem yE:(Tryz.prog.info? 147).map (·.size)=some 5:=by kernel_rfl
theorem ry (w:World) (g:Nat) (t:TypeId) (cs:Array Value) (tmps:Array Value) (hp:tmps.getD 2 undef= .pointer (some ⟨g,0,none⟩)) (h:Blk w g t cs) (h5:cs.size=5):
  (results Tryz.f63 tmps).run Tryz.prog w= .ok (.agg cs) w:=
 results_cell_row (p:=2) (ty:=147) rfl tmps w g t cs (0,0) _ hp h Tryz.underlying147 rfl (by rw [h5];exact yE)
theorem yF (z:Int) (hz:z < 0) (w:World):Calls Tryz.prog 63 #[.int .i64 z] w fun e w' =>e= .returned (kL.val .i64 ⟨⟨#[]⟩,0,0,0,0⟩)∧Below w.heap.size w w' :=by
 go_in;go_wp2_with fail;refine bodyPost_ret (v:=kL.val .i64 ⟨⟨#[]⟩,0,0,0,0⟩) ?_ rfl ?_
 · simp [results,Tryz.results63,go_sem,kL.val]
 · exact ⟨rfl,(Below.refl _ _).alloc (Nat.le_refl _) _⟩
theorem rY (z:Int) (hz:22≤z) (w:World):Calls Tryz.prog 63 #[.int .i64 z] w fun e w' =>e= .returned (kL.val .i64 ⟨⟨#[]⟩,0,0,0,0⟩)∧Below w.heap.size w w' :=by
 go_in;go_wp2_with fail;refine (Ac _).mono ?_;rintro e w1 ⟨rfl,hb⟩;have HG:Blk w1 w.heap.size 147 _:=(Blk.new w _ _).keep (boxed hb) (by omega);have q0:=HG.cell 0;have f0:=HG.free 0;have q1:=HG.cell 1;have f1:=HG.free 1;have q2:=HG.cell 2;have f2:=HG.free 2;have q3:=HG.cell 3;have f3:=HG.free 3;have q4:=HG.cell 4;have f4:=HG.free 4;go_wp2_with fail;refine bodyPost_ret (ry _ _ _ _ _ rfl (((((HG.put 0 _).put 1 _).put 2 _).put 3 _).put 4 _) rfl) rfl ?_;exact ⟨rfl,(((((nV hb).setCell (Nat.le_refl _) _).setCell (Nat.le_refl _) _).setCell (Nat.le_refl _) _).setCell (Nat.le_refl _) _).setCell (Nat.le_refl _) _⟩
theorem Cj (n:Nat) (hn:n < 22) (w:World):Calls Tryz.prog 63 #[.int .i64 (n:Int)] w fun e w' =>e= .returned (kL.val .i64 (eF n))∧Below w.heap.size w w' :=by
 obtain ⟨k0,k1,k2,k3,k4⟩:=oU .i64 n hn;go_in;go_wp2_with fail;refine (Ac _).mono ?_;rintro e w1 ⟨rfl,hb⟩;have HH:=Hd (show Blk w1 w.heap.size 147 _ from (Blk.new w _ _).keep (boxed hb) (by omega));have HB:=Hd (nV hb);clear hb;go_wp2_with fail;refine (z8 _).mono ?_;rintro e w2 ⟨rfl,hg,hb2⟩;have HG:=HH.o.below hb2;have HB2:=Hd (HB.o.trans (hb2.mono HB.o.size));have c0:=(hg.cell (n * 5)).trans k0;have c1:=(hg.cell (n * 5+1)).trans k1;have c2:=(hg.cell (n * 5+2)).trans k2;have c3:=(hg.cell (n * 5+3)).trans k3;have c4:=(hg.cell (n * 5+4)).trans k4;have q0:=HG.cell 0;have f0:=HG.free 0;have q1:=HG.cell 1;have f1:=HG.free 1;have q2:=HG.cell 2;have f2:=HG.free 2;have q3:=HG.cell 3;have f3:=HG.free 3;have q4:=HG.cell 4;have f4:=HG.free 4;clear hg k0 k1 k2 k3 k4 HH HB hb2;have HR:=Hd (show kL.val .i64 (eF n)= .agg #[.string (eF n).name, .int .i64 (eF n).nums, .int .i64 (eF n).kU, .int .i64 (eF n).least, .int .i64 (eF n).most] from rfl);go_wp2_with fail;refine bodyPost_ret (ry _ _ _ _ _ rfl (((((HG.put 0 _).put 1 _).put 2 _).put 3 _).put 4 _) rfl) rfl ?_;exact ⟨by rw [HR.o];rfl,(((((HB2.o).setCell (Nat.le_refl _) _).setCell (Nat.le_refl _) _).setCell (Nat.le_refl _) _).setCell (Nat.le_refl _) _).setCell (Nat.le_refl _) _⟩
theorem rz {z:Int} (h:z < 0):dI z=⟨⟨#[]⟩,0,0,0,0⟩:=if_pos h
theorem mh {z:Int} (h:22≤z):dI z=⟨⟨#[]⟩,0,0,0,0⟩:=by
 unfold dI;rw [if_neg (by omega)];unfold eF;rw [List.getD_eq_getElem?_getD,List.getElem?_eq_none (by show nD.length≤_;have:nD.length=22:=rfl;omega)];rfl
theorem kr (n:Nat):dI (n:Int)=eF n:=by unfold dI;rw [if_neg (by omega),Int.toNat_natCast]
theorem LD (z:Int) (w:World):Calls Tryz.prog 63 #[.int .i64 z] w fun e w' =>e= .returned (kL.val .i64 (dI z))∧Below w.heap.size w w' :=by
 by_cases h0:z < 0
 · rw [rz h0];exact yF z h0 w
 · by_cases h1:22≤z
   · rw [mh h1];exact rY z h1 w
   · obtain ⟨n,rfl⟩:=Int.eq_ofNat_of_zero_le (show 0≤z by omega);rw [kr];exact Cj n (by omega) w
theorem FQ (z:Int) (w:World):Calls Tryz.prog 87 #[.int .i64 z] w fun e w' =>e= .returned (.tuple #[.int .i64 (dI z).nums, .int .i64 (dI z).kU, .int .i64 (dI z).least, .int .i64 (dI z).most])∧Below w.heap.size w w' :=by
 have HG:=Hd (LD z);generalize dI z=r at *;obtain ⟨nm,a,b,c,d⟩:=r;go_in;go_wp2_with fail;refine (HG.o _).mono ?_;rintro e w1 ⟨rfl,hb⟩;unfold kL.val;go_wp2_with fail;go_quiet (fail);go_wp2_with fail;refine bodyPost_ret (oV rfl _ _ _) rfl ?_;exact ⟨rfl,below_drewN (hb.alloc hb.size _) _⟩
end Go.Proofs.YtollifnnpihfdaaGreatDoor
namespace Go.Proofs.YtollifnnpihfdaaGreatDoor
open Go.RowKit
attribute [local irreducible] eF df
theorem gz {z:Int} (h:z < 0∨22≤z):dI z=⟨⟨#[]⟩,0,0,0,0⟩:=h.elim rz mh
theorem FR (z:Int) (w:World) (hc:Calls10 w):Calls Tryz.prog 92 #[.int .i64 z] w fun e w' =>e= .returned (.string (dI z).name)∧w=w' :=by
 by_cases h:z < 0∨22≤z
 · rw [gz h];exact vF z h w
 · obtain ⟨n,rfl⟩:=Int.eq_ofNat_of_zero_le (show 0≤z by omega);rw [kr];exact J2 n (by omega) w hc
end Go.Proofs.YtollifnnpihfdaaGreatDoor
namespace Go.Proofs.YtollifnnpihfdaaGreatDoor
open Go.RowKit
abbrev Ck (z:Int) (a:Nat→Int) (P:Option Addr) (np cp:Nat) (A:Option Addr) (na ca:Nat):Value:=
 .agg #[.int .i64 z, .int .i64 (a 0), .int .i64 (a 1), .int .i64 (a 2), .int .i64 (a 3), .slice P np cp, .slice A na ca]
def oW (m:Nat) (a:Nat→Int):Bool:=(List.range 4).all fun j=>decide (j < m) || a j == 0
theorem yG {m:Nat} {a:Nat→Int} {j:Nat} (h1:m≤j) (h2:j < 4) (h:a j≠0):oW m a=false:=by
 unfold oW;rw [List.all_eq_false];exact ⟨j,by simpa using h2,by simp;exact ⟨h1,h⟩⟩
theorem vG {m:Nat} {a:Nat→Int} (h:∀ j,m≤j→j < 4→a j=0):oW m a=true:=by
 unfold oW;rw [List.all_eq_true];intro j hj;simp at hj;by_cases hm:j < m
 · simp [hm]
 · simp [h j (by omega) hj]
def nE (z:Int) (a:Nat→Int) (ps gs:List ByteArray):Int:=
 if (dI z).name.size=0 then 100 else if oW (dI z).nums a=false then 101
 else if ps.length≠(dI z).kU∨gs.length < (dI z).least∨(dI z).most < gs.length then 101
 else if iZ ps 128=true∨iZ gs 64=true then 102 else 0
theorem vH {z:Int} {a:Nat→Int} {ps gs:List ByteArray} {nm:ByteArray} {m p l u:Nat} (h:dI z=⟨nm,m,p,l,u⟩):nE z a ps gs=
 if nm.size=0 then 100 else if oW m a=false then 101 else if ps.length≠p∨gs.length < l∨u < gs.length then 101 else if iZ ps 128=true∨iZ gs 64=true then 102 else 0:=by unfold nE;rw [h]
theorem FT {w:World} {g:Nat} {t:TypeId} {z:Int} {a:Nat→Int} {x y:Value} (h:Blk w g t #[.int .i64 z, .int .i64 (a 0), .int .i64 (a 1), .int .i64 (a 2), .int .i64 (a 3),x,y]) (k:Nat) (hk:k < 4):w.cell? ⟨g,1+k,none⟩=some (.int .i64 (a k)):=by
 rw [h.cell]
 match k,hk with
 | 0,_=>rfl
 | 1,_=>rfl
 | 2,_=>rfl
 | 3,_=>rfl
attribute [local irreducible] eF df dI nE oW iZ
end Go.Proofs.YtollifnnpihfdaaGreatDoor
namespace Go.Proofs.YtollifnnpihfdaaGreatDoor
open Go.RowKit
theorem mi {s:ByteArray} (h:s.size=0):s.toList= []:=by
 rw [ByteArray.toList_eq];exact List.eq_nil_of_length_eq_zero (by rw [Array.length_toList];exact h)
theorem ja {s:ByteArray} (h:s.size≠0):s.toList≠ []:=by
 rw [ByteArray.toList_eq];intro e;exact h (by have:=congrArg List.length e;rw [Array.length_toList] at this;exact this)
attribute [local irreducible] eF df dI nE oW iZ
theorem yH (z:Int) (a:Nat→Int) (P:Option Addr) (cp:Nat) (A:Option Addr) (ca:Nat) (ps gs:List ByteArray) (w:World) (B:Nat) (hB:B≤w.heap.size) (hP:bD w B P ps) (hA:bD w B A gs) (hlp:ps.length≤1000) (hlg:gs.length≤1000) (hsp:∀ s∈ps,s.size≤maxLen) (hsg:∀ s∈gs,s.size≤maxLen):
   Calls Tryz.prog 83 #[Ck z a P ps.length cp A gs.length ca] w fun e w' =>e= .returned (.int .i64 (nE z a ps gs))∧Below w.heap.size w w' :=by
 have HP:=Hd hP;have HA:=Hd hA;have HSP:=Hd hsp;have HSG:=Hd hsg;clear hP hA hsp hsg;have HG:=Hd (LD z);have hsm:(dI z).nums≤2∧(dI z).kU≤2∧(dI z).least≤1∧(dI z).most≤4∧(dI z).name.size≤8:=by
   by_cases hz:z < 0∨22≤z
   · rw [gz hz];decide
   · obtain ⟨n,rfl⟩:=Int.eq_ofNat_of_zero_le (show 0≤z by omega);rw [kr];exact rW n
 generalize hr:dI z=r at *;have HR:=Hd (vH (a:=a) (ps:=ps) (gs:=gs) hr);clear hr;obtain ⟨nm,m,p,l,u⟩:=r;obtain ⟨s1,s2,s3,s4,_⟩:=hsm;by_cases hnm:nm.size=0
 · have e0:nm.toList.isEmpty=true:=(by rw [mi hnm];rfl);have e1:=mi hnm;have HN:=Hd hnm;clear hnm;go_in;go_wp2_with fail;refine (HG.o _).mono ?_;rintro e w1 ⟨rfl,hb⟩;unfold kL.val;go_wp2_with fail;go_ret;exact ⟨by rw [HR.o,if_pos HN.o];rfl,(nV hb).alloc (nV hb).size _⟩
 · have e0:nm.toList.isEmpty=false:=(by simpa using ja hnm);have e1:=ja hnm;go_in;go_wp2_with fail;refine (HG.o _).mono ?_;rintro e w1 ⟨rfl,hb⟩;unfold kL.val;have HG1:=(Blk.new w _ _).keep (boxed hb) (by omega);have HB1:=nV hb;clear hb;go_wp2_with fail;have HG2:=HG1.alloc (.cells #[.string nm, .int .i64 (m:Int), .int .i64 (p:Int), .int .i64 (l:Int), .int .i64 (u:Int)] 147);have HRW:=Blk.new w1 #[.string nm, .int .i64 (m:Int), .int .i64 (p:Int), .int .i64 (l:Int), .int .i64 (u:Int)] 147;have HB:=Hd (HB1.alloc HB1.size (.cells #[.string nm, .int .i64 (m:Int), .int .i64 (p:Int), .int .i64 (l:Int), .int .i64 (u:Int)] 147));clear HG1 HB1;generalize w1.alloc (.cells #[.string nm, .int .i64 (m:Int), .int .i64 (p:Int), .int .i64 (l:Int), .int .i64 (u:Int)] 147)=w2 at *;generalize w1.heap.size=g1 at *;have q5:=HG2.cell 5;have q6:=HG2.cell 6;have HQ:=Hd (fun k hk=>FT HG2 k hk);have r1:=HRW.cell 1;have r2:=HRW.cell 2;have r3:=HRW.cell 3;have r4:=HRW.cell 4;clear HRW HG2;have HP1:=Hd (HP.o.keep HB.o hB);have HA1:=Hd (HA.o.keep HB.o hB);go_loop [4] (fun i=>∃ k:Nat,m≤k∧k≤4∧i= .int .i64 k∧Hid (∀ j,m≤j→j < k→a j=0)) (fun i=>4 - (intOf i).toNat);case atStart=>exact ⟨m,Nat.le_refl _,by omega,rfl,fun j h1 h2=>by omega⟩
   case round=>
     obtain ⟨k,hk0,hk,rfl,hno⟩:=hrel;by_cases hlt:k < 4
     · have hcell:=HQ.o k (by omega);by_cases ha:a k=0
       · have HN:=Hd (show ∀ j,m≤j→j < k+1→a j=0 from fun j h1 h2=>by
           by_cases e:j=k
           · rw [e];exact ha
           · exact hno.o j h1 (by omega))
         rw [ha] at hcell;clear ha;go_wp2_with fail
         go_round
         case rel=>exact ⟨k+1,by omega,by omega,by go_num,HN.o⟩
         case measure=>simp [intOf];omega
       · have HZ:=Hd (yG (m:=m) (a:=a) (j:=k) (by omega) (by omega) ha);have hab:(a k != 0)=true:=(by simpa using ha);clear ha;generalize a k=v at *;go_wp2_with fail;go_ret;exact ⟨by rw [HR.o,if_neg hnm,if_pos HZ.o];rfl,HB.o⟩
     · have HZ:=Hd (vG (m:=m) (a:=a) fun j h1 h2=>hno.o j h1 (by omega));clear hno;go_wp2_with fail;(all_goals try (go_ret;exact ⟨by rw [HR.o,if_neg hnm,if_neg (by rw [HZ.o];simp),if_pos (by omega)];rfl,HB.o⟩));have HK:=Hd (show ¬ (ps.length≠p∨gs.length < l∨u < gs.length) by omega);go_loop [5] (fun i=>∃ k:Nat,k≤ps.length∧i= .int .i64 k∧Hid (∀ j (hj:j < ps.length),j < k→ps[j].size≤128)) (fun i=>ps.length - (intOf i).toNat);case atStart=>exact ⟨0,Nat.zero_le _,rfl,fun j _ hj=>by omega⟩
       case round=>
         obtain ⟨k,hk,rfl,hno⟩:=hrel;by_cases hlt:k < ps.length
         · obtain ⟨ad,e,xI,hc⟩:=HP1.o k hlt;cases e;have hsz:=HSP.o _ (List.getElem_mem hlt);unfold maxLen at hsz;by_cases ho:128 < ps[k].size
           · have HL:=Hd (uZ hlt ho);generalize ps[k]=s at *;go_wp2_with fail;go_ret;exact ⟨by rw [HR.o,if_neg hnm,if_neg (by rw [HZ.o];simp),if_neg HK.o,if_pos (.inl HL.o)];rfl,HB.o⟩
           · have HN:=Hd (show ∀ j (hj:j < ps.length),j < k+1→ps[j].size≤128 from fun j hj hjk=>by
               by_cases e:j=k
               · subst e;omega
               · exact hno.o j hj (by omega))
             generalize ps[k]=s at *;go_wp2_with fail
             go_round
             case rel=>exact ⟨k+1,by omega,by go_num,HN.o⟩
             case measure=>simp [intOf];omega
         · have L1:=Hd (qX fun j hj=>hno.o j hj (by omega));clear hno;go_wp2_with fail;go_loop [6] (fun i=>∃ k:Nat,k≤gs.length∧i= .int .i64 k∧Hid (∀ j (hj:j < gs.length),j < k→gs[j].size≤64)) (fun i=>gs.length - (intOf i).toNat);case atStart=>exact ⟨0,Nat.zero_le _,rfl,fun j _ hj=>by omega⟩
           case round=>
             obtain ⟨k,hk,rfl,hno⟩:=hrel;by_cases hlt:k < gs.length
             · obtain ⟨ad,e,xI,hc⟩:=HA1.o k hlt;cases e;have hsz:=HSG.o _ (List.getElem_mem hlt);unfold maxLen at hsz;by_cases ho:64 < gs[k].size
               · have HL:=Hd (uZ hlt ho);generalize gs[k]=s at *;go_wp2_with fail;go_ret;exact ⟨by rw [HR.o,if_neg hnm,if_neg (by rw [HZ.o];simp),if_neg HK.o,if_pos (.inr HL.o)];rfl,HB.o⟩
               · have HN:=Hd (show ∀ j (hj:j < gs.length),j < k+1→gs[j].size≤64 from fun j hj hjk=>by
                  by_cases e:j=k
                  · subst e;omega
                  · exact hno.o j hj (by omega))
                 generalize gs[k]=s at *;go_wp2_with fail
                 go_round
                 case rel=>exact ⟨k+1,by omega,by go_num,HN.o⟩
                 case measure=>simp [intOf];omega
             · have L2:=Hd (qX fun j hj=>hno.o j hj (by omega));clear hno;go_wp2_with fail;go_ret;exact ⟨by rw [HR.o,if_neg hnm,if_neg (by rw [HZ.o];simp),if_neg HK.o,if_neg (by rw [L1.o,L2.o];simp)];rfl,HB.o⟩
end Go.Proofs.YtollifnnpihfdaaGreatDoor
