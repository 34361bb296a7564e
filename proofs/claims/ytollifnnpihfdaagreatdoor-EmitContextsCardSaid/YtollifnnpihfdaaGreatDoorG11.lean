import Derived.Test.YtollifnnpihfdaaGreatDoorG10
import Derived.Test.YtollifnnpihfdaaGreatDoorG08
set_option maxRecDepth 100000
set_option maxHeartbeats 64000000
set_option linter.all false
namespace Go.Proofs.YtollifnnpihfdaaGreatDoor
open Go.RowKit
structure Sl where
 A:Option Addr
 n:Nat
 c:Nat
abbrev Sl.v (s:Sl):Value:= .slice s.A s.n s.c
structure aN where
 d:Int
 i:Int
 o:Sl
 u:Bool
 n:Int
 ps:Sl
 gs:Sl
structure aD where
 gv:ByteArray
 pa:ByteArray
 dd:Int
 di:Int
 nm:ByteArray
 ro:Int
 mo:Int
 pe:Int
def aV (c:Ctx) (r:aN) (it:Value):Array Value:=#[.int .i64 c.ph, .int .i64 (c.p 0), .int .i64 (c.p 1), .int .i64 (c.p 2), .int .i64 (c.p 3), .int .i64 (c.p 4), .int .i64 (c.p 5), .int .i64 (c.p 6), .int .i64 (c.p 7), .int .i64 r.d, .int .i64 r.i, .string c.comm, .string c.exe,r.o.v, .bool r.u, .int .i64 r.n, .int .i64 (c.a 0), .int .i64 (c.a 1), .int .i64 (c.a 2), .int .i64 (c.a 3),r.ps.v,r.gs.v, .int .i64 c.ex,it, .int .i64 c.ty]
def az (i:Itm) (r:aD):Array Value:=#[.string r.gv, .string r.pa, .int .i64 r.dd, .int .i64 r.di, .string r.nm, .int .i64 i.dev, .int .i64 i.ino, .int .i64 r.ro, .int .i64 i.kind, .int .i64 r.mo, .int .i64 i.uid, .int .i64 i.gid, .int .i64 r.pe]
abbrev rq (c:Ctx) (r:aN) (it:Value):Value:= .agg (aV c r it)
abbrev jJ (i:Itm) (r:aD):Value:= .agg (az i r)
section
variable {w:World} {g:Nat} {c:Ctx} {r:aN} {it:Value} {i:Itm} {ir:aD}
abbrev aR (w:World) (g:Nat) (c:Ctx) (r:aN) (it:Value):Prop:=Blk w g 54 (aV c r it)
abbrev fZ (w:World) (g:Nat) (i:Itm) (r:aD):Prop:=Blk w g 73 (az i r)
abbrev dW (w:World) (g:Nat) (fd op nu:Int) (tx:ByteArray) (ot:Int):Prop:=Blk w g 85 (bP fd op nu tx ot)
theorem aR.ph (h:aR w g c r it):w.cell? ⟨g,0,none⟩=some (.int .i64 c.ph):=h.cell 0
theorem aR.p0 (h:aR w g c r it):w.cell? ⟨g,1,none⟩=some (.int .i64 (c.p 0)):=h.cell 1
theorem aR.p1 (h:aR w g c r it):w.cell? ⟨g,2,none⟩=some (.int .i64 (c.p 1)):=h.cell 2
theorem aR.p2 (h:aR w g c r it):w.cell? ⟨g,3,none⟩=some (.int .i64 (c.p 2)):=h.cell 3
theorem aR.p3 (h:aR w g c r it):w.cell? ⟨g,4,none⟩=some (.int .i64 (c.p 3)):=h.cell 4
theorem aR.p4 (h:aR w g c r it):w.cell? ⟨g,5,none⟩=some (.int .i64 (c.p 4)):=h.cell 5
theorem aR.p5 (h:aR w g c r it):w.cell? ⟨g,6,none⟩=some (.int .i64 (c.p 5)):=h.cell 6
theorem aR.p6 (h:aR w g c r it):w.cell? ⟨g,7,none⟩=some (.int .i64 (c.p 6)):=h.cell 7
theorem aR.p7 (h:aR w g c r it):w.cell? ⟨g,8,none⟩=some (.int .i64 (c.p 7)):=h.cell 8
theorem aR.comm (h:aR w g c r it):w.cell? ⟨g,11,none⟩=some (.string c.comm):=h.cell 11
theorem aR.exe (h:aR w g c r it):w.cell? ⟨g,12,none⟩=some (.string c.exe):=h.cell 12
theorem aR.a0 (h:aR w g c r it):w.cell? ⟨g,16,none⟩=some (.int .i64 (c.a 0)):=h.cell 16
theorem aR.a1 (h:aR w g c r it):w.cell? ⟨g,17,none⟩=some (.int .i64 (c.a 1)):=h.cell 17
theorem aR.a2 (h:aR w g c r it):w.cell? ⟨g,18,none⟩=some (.int .i64 (c.a 2)):=h.cell 18
theorem aR.a3 (h:aR w g c r it):w.cell? ⟨g,19,none⟩=some (.int .i64 (c.a 3)):=h.cell 19
theorem aR.ex (h:aR w g c r it):w.cell? ⟨g,22,none⟩=some (.int .i64 c.ex):=h.cell 22
theorem aR.ty (h:aR w g c r it):w.cell? ⟨g,24,none⟩=some (.int .i64 c.ty):=h.cell 24
theorem aR.c9 (h:aR w g c r it):w.cell? ⟨g,9,none⟩=some (.int .i64 r.d):=h.cell 9
theorem aR.c10 (h:aR w g c r it):w.cell? ⟨g,10,none⟩=some (.int .i64 r.i):=h.cell 10
theorem aR.c13 (h:aR w g c r it):w.cell? ⟨g,13,none⟩=some r.o.v:=h.cell 13
theorem aR.c14 (h:aR w g c r it):w.cell? ⟨g,14,none⟩=some (.bool r.u):=h.cell 14
theorem aR.items (h:aR w g c r it):w.cell? ⟨g,23,none⟩=some it:=h.cell 23
theorem fZ.dev (h:fZ w g i ir):w.cell? ⟨g,5,none⟩=some (.int .i64 i.dev):=h.cell 5
theorem fZ.ino (h:fZ w g i ir):w.cell? ⟨g,6,none⟩=some (.int .i64 i.ino):=h.cell 6
theorem fZ.kind (h:fZ w g i ir):w.cell? ⟨g,8,none⟩=some (.int .i64 i.kind):=h.cell 8
theorem fZ.uid (h:fZ w g i ir):w.cell? ⟨g,10,none⟩=some (.int .i64 i.uid):=h.cell 10
theorem fZ.gid (h:fZ w g i ir):w.cell? ⟨g,11,none⟩=some (.int .i64 i.gid):=h.cell 11
theorem dW.c0 {fd op nu:Int} {tx:ByteArray} {ot:Int} (h:dW w g fd op nu tx ot):w.cell? ⟨g,0,none⟩=some (.int .i64 fd):=h.cell 0
theorem dW.c1 {fd op nu:Int} {tx:ByteArray} {ot:Int} (h:dW w g fd op nu tx ot):w.cell? ⟨g,1,none⟩=some (.int .i64 op):=h.cell 1
theorem dW.c2 {fd op nu:Int} {tx:ByteArray} {ot:Int} (h:dW w g fd op nu tx ot):w.cell? ⟨g,2,none⟩=some (.int .i64 nu):=h.cell 2
theorem dW.c3 {fd op nu:Int} {tx:ByteArray} {ot:Int} (h:dW w g fd op nu tx ot):w.cell? ⟨g,3,none⟩=some (.string tx):=h.cell 3
theorem dW.c4 {fd op nu:Int} {tx:ByteArray} {ot:Int} (h:dW w g fd op nu tx ot):w.cell? ⟨g,4,none⟩=some (.int .i64 ot):=h.cell 4
theorem dK (c:Ctx) (r:aN) (it:Value):(Tryz.prog.info? 54).map (·.size)=some (aV c r it).size:=by show _=some 25;kernel_rfl
theorem fo (i:Itm) (r:aD):(Tryz.prog.info? 73).map (·.size)=some (az i r).size:=by show _=some 13;kernel_rfl
theorem uP (fd op nu:Int) (tx:ByteArray) (ot:Int):(Tryz.prog.info? 85).map (·.size)=some (bP fd op nu tx ot).size:=by show _=some 5;kernel_rfl
theorem uQ (w:World) (c:Ctx) (r:aN) (it:Value) (o:Obj):aR ((w.alloc (.cells (aV c r it) 54)).alloc o) w.heap.size c r it:=(Blk.new w _ _).alloc o
theorem xK (w:World) (i:Itm) (r:aD) (o:Obj):fZ ((w.alloc o).alloc (.cells (az i r) 73)) (w.heap.size+1) i r:=by
 have:=Blk.new (w.alloc o) (az i r) 73;simpa using this
end
attribute [local irreducible] aV az
def zb (c:Ctx) (i:Itm) (f:Int):Int:=if fV c f=true then yF c i f else 0
theorem lZ {c:Ctx} {i:Itm} {f:Int} (h:fV c f=true):zb c i f=yF c i f:=if_pos h
theorem Gr {c:Ctx} {i:Itm} {f:Int} (h:fV c f=false):zb c i f=0:=if_neg (by rw [h];decide)
theorem ze {x y:Int} {a b:Bool} (h:x=y) (k:a=b):Ending.returned (.tuple #[.int .i64 x, .bool a])=Ending.returned (.tuple #[.int .i64 y, .bool b]):=by rw [h,k]
theorem NP (op a b:Int) (ho:1≤op∧op≤8) (w:World):Calls Tryz.prog 283 #[.int .i64 op, .int .i64 a, .int .i64 b] w fun e w' =>e= .returned (.bool (Gq op a b))∧w=w' :=by
 have hcs:op=1∨op=2∨op=3∨op=4∨op=5∨op=6∨op=7∨op=8:=by omega
 clear ho;rcases hcs with rfl | rfl | rfl | rfl | rfl | rfl | rfl | rfl;all_goals
  go_in;go_wp2_with fail;go_ret;exact ⟨aX rfl,rfl⟩
theorem NQ (op a b:Int) (ho:1≤op∧op≤8) (w:World):Calls Tryz.prog 264 #[.int .i64 op, .int .i64 a, .int .i64 b] w fun e w' =>e= .returned (.bool (Gq op a b))∧w=w' :=by
 have hcs:op=1∨op=2∨op=3∨op=4∨op=5∨op=6∨op=7∨op=8:=by omega
 clear ho;rcases hcs with rfl | rfl | rfl | rfl | rfl | rfl | rfl | rfl;all_goals
  go_in;go_wp2_with fail;go_ret;exact ⟨aX rfl,rfl⟩
theorem JF (c:Ctx) (r:aN) (it:Value) (i:Itm) (ir:aD) (f:Int) (hf:15≤f∧f≤21) (w:World):Calls Tryz.prog 289 #[.int .i64 f,rq c r it,jJ i ir] w fun e w' =>e= .returned (.tuple #[.int .i64 (yF c i f), .bool true])∧Below w.heap.size w w' :=by
 have HC:=uQ w c r it (.cells (az i ir) 73);have HI:=xK w i ir (.cells (aV c r it) 54);have HB:=Hd (((Below.refl w.heap.size w).alloc (Nat.le_refl _) (.cells (aV c r it) 54)).alloc (by simp) (.cells (az i ir) 73));have q22:=HC.ex;have q5:=HI.dev;have q6:=HI.ino;have q8:=HI.kind;have q10:=HI.uid;have q11:=HI.gid;clear HC HI;have hcs:f=15∨(f=16∧0≤c.ex)∨(f=16∧¬ 0≤c.ex)∨f=17∨f=18∨f=19∨f=20∨f=21:=by omega
 clear hf;rcases hcs with rfl | ⟨rfl,h⟩ | ⟨rfl,h⟩ | rfl | rfl | rfl | rfl | rfl;all_goals
  go_in;go_wp2_with fail;go_ret2;exact ⟨ze (by unfold yF;simp;try (first | omega | (split <;> omega))) rfl,HB.o⟩
theorem CZ {c:Ctx} {f:Int} (h:f≤14):fV c f=true:=by unfold fV;rw [if_neg (by omega)];simp;omega
theorem mI {c:Ctx} {f:Int} (h:15≤f∧f≤21):fV c f=decide (c.ph=2):=if_pos h
theorem rO (c:Ctx):fV c 22=decide (c.ty≠0):=by unfold fV;rw [if_neg (by omega)];simp
theorem Da (c:Ctx) (r:aN) (it:Value) (i:Itm) (ir:aD) (f:Int) (hf:1≤f∧f≤12) (w:World):Calls Tryz.prog 282 #[.int .i64 f,rq c r it,jJ i ir] w fun e w' =>e= .returned (.tuple #[.int .i64 (zb c i f), .bool (fV c f)])∧Below w.heap.size w w' :=by
 have HC:=uQ w c r it (.cells (az i ir) 73);have HI:=xK w i ir (.cells (aV c r it) 54);have HB:=Hd (((Below.refl w.heap.size w).alloc (Nat.le_refl _) (.cells (aV c r it) 54)).alloc (by simp) (.cells (az i ir) 73));have q0:=HC.p0;have q1:=HC.p1;have q2:=HC.p2;have q3:=HC.p3;have q4:=HC.p4;have q5:=HC.p5;have q6:=HC.p6;have q7:=HC.p7;have a0:=HC.a0;have a1:=HC.a1;have a2:=HC.a2;have a3:=HC.a3;clear HC HI;have HH:=Hd (CZ (c:=c) (f:=f) (by omega));have HN:=Hd (lZ (i:=i) HH.o);have hcs:f=1∨f=2∨f=3∨f=4∨f=5∨f=6∨f=7∨f=8∨f=9∨f=10∨f=11∨f=12:=by omega
 clear hf;rcases hcs with rfl | rfl | rfl | rfl | rfl | rfl | rfl | rfl | rfl | rfl | rfl | rfl;all_goals
  go_in;go_wp2_with fail;go_ret2;exact ⟨ze (by rw [HN.o];unfold yF;simp) HH.o.symm,HB.o⟩
theorem Gs (c:Ctx) (r:aN) (it:Value) (i:Itm) (ir:aD) (w:World):Calls Tryz.prog 282 #[.int .i64 22,rq c r it,jJ i ir] w fun e w' =>e= .returned (.tuple #[.int .i64 (zb c i 22), .bool (fV c 22)])∧Below w.heap.size w w' :=by
 have HC:=uQ w c r it (.cells (az i ir) 73);have HI:=xK w i ir (.cells (aV c r it) 54);have HB:=Hd (((Below.refl w.heap.size w).alloc (Nat.le_refl _) (.cells (aV c r it) 54)).alloc (by simp) (.cells (az i ir) 73));have q:=HC.ty;clear HC HI;have HH:=Hd (rO c);go_in;go_wp2_with fail;go_quiet (fail);go_wp2_with fail;go_ret2;refine ⟨ze ?_ ?_,below_drewN HB.o _⟩
 · unfold zb;by_cases h:c.ty=0
   · rw [HH.o,if_neg (by simpa using h)];exact h
   · rw [HH.o,if_pos (by simpa using h)];rfl
 · rw [HH.o];by_cases h:c.ty=0 <;> simp [h]
theorem Gt (c:Ctx) (r:aN) (it:Value) (i:Itm) (ir:aD) (f:Int) (hr:15≤f∧f≤21) (hp:c.ph≠2) (w:World):Calls Tryz.prog 282 #[.int .i64 f,rq c r it,jJ i ir] w fun e w' =>e= .returned (.tuple #[.int .i64 (zb c i f), .bool (fV c f)])∧Below w.heap.size w w' :=by
 have HC:=uQ w c r it (.cells (az i ir) 73);have HI:=xK w i ir (.cells (aV c r it) 54);have HB:=Hd (((Below.refl w.heap.size w).alloc (Nat.le_refl _) (.cells (aV c r it) 54)).alloc (by simp) (.cells (az i ir) 73));have q:=HC.ph;clear HC HI;have HH:=Hd (show fV c f=false by rw [mI hr];simpa using hp);have HN:=Hd (Gr (i:=i) HH.o);have hpb:(c.ph != 2)=true:=by simpa using hp
 have n1:(f == 1)=false:=by simp;omega
 have n2:(f == 2)=false:=by simp;omega
 have n3:(f == 3)=false:=by simp;omega
 have n4:(f == 4)=false:=by simp;omega
 have n5:(f == 5)=false:=by simp;omega
 have n6:(f == 6)=false:=by simp;omega
 have n7:(f == 7)=false:=by simp;omega
 have n8:(f == 8)=false:=by simp;omega
 have n9:(f == 9)=false:=by simp;omega
 have n10:(f == 10)=false:=by simp;omega
 have n11:(f == 11)=false:=by simp;omega
 have n12:(f == 12)=false:=by simp;omega
 have n22:(f == 22)=false:=by simp;omega
 clear hr hp;go_in;go_wp2_with fail;go_ret2;exact ⟨ze HN.o.symm HH.o.symm,HB.o⟩
theorem Db (c:Ctx) (r:aN) (it:Value) (i:Itm) (ir:aD) (f:Int) (hr:15≤f∧f≤21) (hp:c.ph=2) (w:World):Calls Tryz.prog 282 #[.int .i64 f,rq c r it,jJ i ir] w fun e w' =>e= .returned (.tuple #[.int .i64 (zb c i f), .bool (fV c f)])∧Below w.heap.size w w' :=by
 have HC:=uQ w c r it (.cells (az i ir) 73);have HI:=xK w i ir (.cells (aV c r it) 54);have HB:=Hd (((Below.refl w.heap.size w).alloc (Nat.le_refl _) (.cells (aV c r it) 54)).alloc (by simp) (.cells (az i ir) 73));have q:=HC.ph;have HH:=Hd (show fV c f=true by rw [mI hr];simpa using hp);have HN:=Hd (lZ (i:=i) HH.o);have HX:=Hd (JF c r it i ir f hr);have hpb:(c.ph != 2)=false:=by simpa using hp
 have HCH:=Hd HC;have HIH:=Hd HI;have n1:(f == 1)=false:=by simp;omega
 have n2:(f == 2)=false:=by simp;omega
 have n3:(f == 3)=false:=by simp;omega
 have n4:(f == 4)=false:=by simp;omega
 have n5:(f == 5)=false:=by simp;omega
 have n6:(f == 6)=false:=by simp;omega
 have n7:(f == 7)=false:=by simp;omega
 have n8:(f == 8)=false:=by simp;omega
 have n9:(f == 9)=false:=by simp;omega
 have n10:(f == 10)=false:=by simp;omega
 have n11:(f == 11)=false:=by simp;omega
 have n12:(f == 12)=false:=by simp;omega
 have n22:(f == 22)=false:=by simp;omega
 clear hr hp HC HI;go_in;go_wp2_with (first | ((with_reducible refine aP ?_ 54 (.tmp 4) ?_ HCH.o ?_ _ Tryz.underlying54 ?_ ?_ ?_);(iterate 4 rfl);exact dK _ _ _) | ((with_reducible refine aP ?_ 73 (.tmp 5) ?_ HIH.o ?_ _ Tryz.underlying73 ?_ ?_ ?_);(iterate 4 rfl);exact fo _ _));refine (HX.o _).mono ?_;rintro e w1 ⟨rfl,hb⟩;have HB1:=Hd (HB.o.trans (hb.mono HB.o.size));go_wp2_with fail;go_ret2;exact ⟨ze HN.o.symm HH.o.symm,HB1.o⟩
theorem vX (c:Ctx) (r:aN) (it:Value) (i:Itm) (ir:aD) (f:Int) (hf:1≤f∧f≤22) (h13:f≠13) (h14:f≠14) (w:World):Calls Tryz.prog 282 #[.int .i64 f,rq c r it,jJ i ir] w fun e w' =>e= .returned (.tuple #[.int .i64 (zb c i f), .bool (fV c f)])∧Below w.heap.size w w' :=by
 by_cases hlow:f≤14
 · exact Da c r it i ir f (by omega) w
 · by_cases h22:f=22
   · subst h22;exact Gs c r it i ir w
   · by_cases hp:c.ph=2
     · exact Db c r it i ir f (by omega) hp w
     · exact Gt c r it i ir f (by omega) hp w
end Go.Proofs.YtollifnnpihfdaaGreatDoor
namespace Go.Proofs.YtollifnnpihfdaaGreatDoor
open Go.RowKit
theorem oL {s:ByteArray} (h:s.size=0):dR s=false:=by unfold dR;simp [h]
theorem oM {s:ByteArray} (h:12 < s.size):dR s=false:=by
 unfold dR;have:decide (s.size≤12)=false:=decide_eq_false (by omega);simp [this]
theorem sF {s:ByteArray} (h:(s.toList == [46])=true):dR s=false:=by unfold dR;simp [h]
theorem oN {s:ByteArray} (h:(s.toList == [46,46])=true):dR s=false:=by unfold dR;simp [h]
theorem sG {s:ByteArray} (h0:s.size≠0) (h1:s.size≤12) (h2:(s.toList == [46])=false) (h3:(s.toList == [46,46])=false):dR s=s.data.toList.all nsC:=by
 unfold dR;have a:decide (1≤s.size)=true:=decide_eq_true (by omega);have b:decide (s.size≤12)=true:=decide_eq_true h1;rw [a,b,h2,h3];simp
attribute [local irreducible] dR
theorem QK (s:ByteArray) (hs:s.size≤1000000) (w:World):Calls Tryz.prog 267 #[.string s] w fun e w' =>e= .returned (.bool (dR s))∧Below w.heap.size w w' :=by
 by_cases h0:s.size=0
 · have HR:=Hd (oL h0);have e1:=jB h0;clear h0;go_in;go_wp2_with fail;go_ret;exact ⟨aX HR.o.symm,Below.refl _ _⟩
 have e1:=dB h0;have e2:s.toList.isEmpty=false:=by simpa using e1
 by_cases h1:12 < s.size
 · have HR:=Hd (oM h1);have h1' :¬ ((s.size:Int)≤12):=(by omega);clear h0 h1;go_in;go_wp2_with fail;go_ret;exact ⟨aX HR.o.symm,Below.refl _ _⟩
 have h1' :((s.size:Int)≤12):=by omega
 cases h2:s.toList == [46]
 · have b2:(s.toList != [46])=true:=(by simp [bne,h2]);cases h3:s.toList == [46,46]
   · have b3:(s.toList != [46,46])=true:=(by simp [bne,h3]);have HR:=Hd (sG h0 (by omega) h2 h3);have HC:=Hd (fun W=>sD s W hs);unfold aO at HC;clear h0 h1;go_in;go_wp2_with fail;refine (HC.o _).mono ?_;rintro e w1 ⟨rfl,hb⟩;have HB:=Hd hb;clear hb;generalize s.data.toList.all nsC=b at *;cases b;all_goals
      go_wp2_with fail;go_ret;exact ⟨aX HR.o.symm,HB.o⟩
   · have b3:(s.toList != [46,46])=false:=(by simp [bne,h3]);have HR:=Hd (oN h3);clear h0 h1;go_in;go_wp2_with fail;go_ret;exact ⟨aX HR.o.symm,Below.refl _ _⟩
 · have b2:(s.toList != [46])=false:=(by simp [bne,h2]);have HR:=Hd (sF h2);clear h0 h1;go_in;go_wp2_with fail;go_ret;exact ⟨aX HR.o.symm,Below.refl _ _⟩
theorem p9 (f:UInt8→Bool) (s:ByteArray) (k:Nat) (h:k < s.size) (h0:(s.data.toList.take k).all f=true) (h1:f s[k]=true):(s.data.toList.take (k+1)).all f=true:=by
 rw [rH s k h,List.all_append,h0];simp [h1]
theorem sH (f:UInt8→Bool) (s:ByteArray) (k:Nat) (h:k < s.size) (h1:f s[k]=false):s.data.toList.all f=false:=by
 rw [← Bool.not_eq_true];intro hall;have:=(List.all_eq_true.1 hall) s[k] (Array.mem_toList_iff.2 (Array.getElem_mem (xs:=s.data) h));rw [h1] at this;cases this
theorem Dw {c:UInt8} (h:((c.toNat:Int) == 0)=true):nsC c=false:=by
 have:c.toNat=0:=by simpa using h
 have:c=0:=UInt8.toNat_inj.1 this;subst this;rfl
theorem zy {c:UInt8} (h:((c.toNat:Int) == 47)=true):nsC c=false:=by
 have:(c.toNat:Int)=47:=by simpa using h
 have:c=47:=UInt8.toNat_inj.1 (by show c.toNat=47;omega);subst this;rfl
theorem JY {c:UInt8} (h0:((c.toNat:Int) == 0)=false) (h1:((c.toNat:Int) == 47)=false):nsC c=true:=by
 have a:c≠0:=fun e=>by rw [e] at h0;cases h0
 have b:c≠47:=fun e=>by rw [e] at h1;cases h1
 unfold nsC;simp [a,b]
theorem JZ (s:ByteArray) (w:World):Calls Tryz.prog 197 #[.string s] w fun e w' =>e= .returned (.bool (dR s))∧w=w' :=by
 by_cases h0:s.size=0
 · have HR:=Hd (oL h0);have h0' :(s.size:Int) < 1:=(by omega);clear h0;go_in;go_wp2_with fail;go_ret;exact ⟨aX HR.o.symm,rfl⟩
 have h0' :¬ ((s.size:Int) < 1):=by omega
 by_cases h1:12 < s.size
 · have HR:=Hd (oM h1);have h1' :(12:Int) < (s.size:Int):=(by omega);clear h0 h1;go_in;go_wp2_with fail;go_ret;exact ⟨aX HR.o.symm,rfl⟩
 have h1' :¬ ((12:Int) < (s.size:Int)):=by omega
 cases h2:s.toList == [46]
 · cases h3:s.toList == [46,46]
   · have HR:=Hd (sG h0 (by omega) h2 h3);have UM:s.size≤12:=(by omega);clear h0 h1;go_in;go_wp2_with fail;go_loop [3] (fun i=>∃ k:Nat,k≤s.size∧i= .int .i64 (k:Int)∧Hid ((s.data.toList.take k).all nsC=true)) (fun i=>s.size - (intOf i).toNat);case atStart=>exact ⟨0,Nat.zero_le _,rfl,rfl⟩
     case round=>
      obtain ⟨k,hk,rfl,hall⟩:=hrel;by_cases hlt:k < s.size
      · cases c0:((s[k].toNat:Int) == 0)
        · cases c1:((s[k].toNat:Int) == 47)
          · have HN:=Hd (p9 nsC s k hlt hall.o (JY c0 c1));go_wp2_with fail
            go_round
            case rel=>exact ⟨k+1,by omega,by go_num,HN.o⟩
            case measure=>simp [intOf];omega
          · have HN:=Hd (sH nsC s k hlt (zy c1));go_wp2_with fail;go_ret;exact ⟨aX (HR.o.trans HN.o).symm,rfl⟩
        · have HN:=Hd (sH nsC s k hlt (Dw c0));go_wp2_with fail;go_ret;exact ⟨aX (HR.o.trans HN.o).symm,rfl⟩
      · have HN:=Hd (show s.data.toList.all nsC=true by have:=hall.o;rwa [pM s k (by omega)] at this);go_wp2_with fail;go_ret;exact ⟨aX (HR.o.trans HN.o).symm,rfl⟩
   · have HR:=Hd (oN h3);clear h0 h1;go_in;go_wp2_with fail;go_ret;exact ⟨aX HR.o.symm,rfl⟩
 · have HR:=Hd (sF h2);clear h0 h1;go_in;go_wp2_with fail;go_ret;exact ⟨aX HR.o.symm,rfl⟩
end Go.Proofs.YtollifnnpihfdaaGreatDoor
namespace Go.Proofs.YtollifnnpihfdaaGreatDoor
open Go.RowKit
theorem sI (D:List ByteArray) (x:ByteArray):(D ++ [x]).filter dx=D.filter dx ++ (if x.size=0 then [] else [x]):=by
 rw [List.filter_append];congr 1;by_cases h:x.size=0
 · simp [dx,h]
 · simp [dx,h]
theorem sJ {D:List ByteArray} {x:ByteArray} (h:x.size≠0):(D ++ [x]).filter dx=D.filter dx ++ [x]:=by rw [sI,if_neg h]
theorem sK {D:List ByteArray} {x:ByteArray} (h:x.size=0):(D ++ [x]).filter dx=D.filter dx:=by rw [sI,if_pos h,List.append_nil]
def J3 (s:ByteArray) (w:World) (e:Ending) (w' :World):Prop:=∃ (v:Value) (L:List ByteArray) (a b:Bool),e= .returned (.tuple #[v, .bool a, .bool b])∧IsW 47 s L∧bF w' w.heap.size v (L.filter dx)∧Below w.heap.size w w'
theorem Dx (D:List ByteArray):(D.filter dx).length≤D.length:=List.length_filter_le _ _
theorem uZ (s:ByteArray) (w:World) (hs:s.size≤100000):Calls Tryz.prog 192 #[.string s] w (J3 s w):=by
 go_in;go_wp2_with fail;go_loopw [5,6,7] (fun v m i wr=>∃ (D:List ByteArray) (mk ik:Nat),m= .int .i64 (mk:Int)∧i= .int .i64 (ik:Int)∧bF wr w.heap.size v (D.filter dx)∧Below w.heap.size w wr∧Hid ((ik≤s.size∧jb 47 s D mk ik)∨(ik=s.size+1∧IsW 47 s D))∧D.length≤100001∧mk≤s.size+1) (fun _ _ i _=>s.size+2 - (intOf i).toNat);case atStart=>exact ⟨[],0,0,rfl,rfl,bF.nil _ _,Below.refl _ _,Hd (.inl ⟨Nat.zero_le _,jb.start 47 s⟩),by simp,by omega⟩
 case round=>
  obtain ⟨D,mk,ik,rfl,rfl,hown,hb,hst,hD,hm⟩:=hrel;have hfl:=Dx D;by_cases hle:ik≤s.size
  · have hc:jb 47 s D mk ik:=by
      rcases hst.o with ⟨_,h⟩ | ⟨h,_⟩
      · exact h
      · omega
    have h1:=hc.le;have h3:=hc.count;have HST:=Hd hc;clear hst hc;by_cases hlt:ik < s.size
    · have n1:((ik:Int) == (s.size:Int))=false:=(by rw [beq_eq_false_iff_ne];omega);by_cases hcc:s[ik]=47
      · have t1:((s[ik].toNat:Int) == 47)=true:=(by rw [hcc];rfl);have HC:=Hd (HST.o.cut hlt hcc);clear hcc;by_cases hem:mk < ik
        · have HF:=Hd (sJ (D:=D) (x:=s.extract mk ik) (by rw [ByteArray.size_extract];omega));go_wp2_with (at_builtin;refine dN rfl (.tmp 27) (.tmp 32) rfl w.heap.size _ (D.filter dx) rfl (hown.alloc _) (wr.heap.size+1) (some ⟨wr.heap.size,0,none⟩) 1 1 [s.extract mk ik] rfl rfl (zx wr _ 9) (by simp;omega) (by have:=hb.size;simp;omega) ?_;intro v4 w4 nH hg4 xP);have hb4:=bF.oK (hown.alloc _) hb rfl hg4 nH;clear hg4 xP hb hown;go_wp2_with fail;go_roundw;case rel=>exact ⟨D ++ [s.extract mk ik],ik+1,ik+1,by go_num,by go_num,by rw [HF.o];exact nH,hb4,Hd (.inl ⟨by omega,HC.o⟩),by rw [List.length_append,List.length_singleton];omega,by omega⟩
          case measure=>simp [intOf];omega
        · have HF:=Hd (sK (D:=D) (x:=s.extract mk ik) (by rw [ByteArray.size_extract];omega));go_wp2_with fail;go_roundw;case rel=>exact ⟨D ++ [s.extract mk ik],ik+1,ik+1,by go_num,by go_num,by rw [HF.o];exact hown,hb,Hd (.inl ⟨by omega,HC.o⟩),by rw [List.length_append,List.length_singleton];omega,by omega⟩
          case measure=>simp [intOf];omega
      · have t1:((s[ik].toNat:Int) == 47)=false:=by
          rw [beq_eq_false_iff_ne];intro e;exact hcc (UInt8.toNat_inj.1 (by show s[ik].toNat=47;omega))
        have HC:=Hd (HST.o.next hlt hcc);clear hcc;go_wp2_with fail;go_roundw;case rel=>exact ⟨D,mk,ik+1,rfl,by go_num,hown,hb,Hd (.inl ⟨by omega,HC.o⟩),hD,hm⟩
        case measure=>simp [intOf];omega
    · obtain rfl:ik=s.size:=(by omega);have n1:((s.size:Int) == (s.size:Int))=true:=(by simp);have HC:=Hd HST.o.done;by_cases hem:mk < s.size
      · have HF:=Hd (sJ (D:=D) (x:=s.extract mk s.size) (by rw [ByteArray.size_extract];omega));go_wp2_with (at_builtin;refine dN rfl (.tmp 27) (.tmp 32) rfl w.heap.size _ (D.filter dx) rfl (hown.alloc _) (wr.heap.size+1) (some ⟨wr.heap.size,0,none⟩) 1 1 [s.extract mk s.size] rfl rfl (zx wr _ 9) (by simp;omega) (by have:=hb.size;simp;omega) ?_;intro v4 w4 nH hg4 xP);have hb4:=bF.oK (hown.alloc _) hb rfl hg4 nH;clear hg4 xP hb hown;go_wp2_with fail;go_roundw;case rel=>exact ⟨D ++ [s.extract mk s.size],s.size+1,s.size+1,by go_num,by go_num,by rw [HF.o];exact nH,hb4,Hd (.inr ⟨rfl,HC.o⟩),by rw [List.length_append,List.length_singleton];omega,by omega⟩
        case measure=>simp [intOf]
      · have HF:=Hd (sK (D:=D) (x:=s.extract mk s.size) (by rw [ByteArray.size_extract];omega));go_wp2_with fail;go_roundw;case rel=>exact ⟨D ++ [s.extract mk s.size],s.size+1,s.size+1,by go_num,by go_num,by rw [HF.o];exact hown,hb,Hd (.inr ⟨rfl,HC.o⟩),by rw [List.length_append,List.length_singleton];omega,by omega⟩
        case measure=>simp [intOf]
  · have hw:IsW 47 s D:=by
      rcases hst.o with ⟨h,_⟩ | ⟨_,h⟩
      · omega
      · exact h
    have HW:=Hd hw;clear hst hw;go_wp2_with fail;by_cases hz:0 < s.size
    · have d1:decide ((0:Int) < (s.size:Int))=true:=decide_eq_true (by omega);have z0:(0:Int) < (s.size:Int):=(by omega);have z1:(1:Int)≤(s.size:Int):=(by omega);have z2:s.size - 1 < s.size:=(by omega);have c0:(0:Int)≤(s.size:Int) - 1:=(by omega);have c1:(s.size:Int) - 1 < (s.size:Int):=(by omega);have c2:IntKind.i64.wrap ((s.size:Int) - 1)=(s.size:Int) - 1:=IntWalk.i64_in _ (by omega);have c3:((s.size:Int) - 1).toNat=s.size - 1:=(by omega);go_quiet (fail);go_wp2_with fail;refine bodyPost_ret (v:= .tuple #[_, .bool _, .bool _]) (by simp [results,Tryz.results192,go_sem];exact ⟨rfl,rfl,rfl⟩) rfl ?_;exact ⟨_,D,_,_,rfl,HW.o,hown.below (below_drewN (Below.refl _ _) _),below_drewN hb _⟩
    · have d1:decide ((0:Int) < (s.size:Int))=false:=decide_eq_false (by omega);go_quiet (fail);go_wp2_with fail;refine bodyPost_ret (v:= .tuple #[_, .bool _, .bool _]) (by simp [results,Tryz.results192,go_sem];exact ⟨rfl,rfl,rfl⟩) rfl ?_;exact ⟨_,D,_,_,rfl,HW.o,hown.below (below_drewN (Below.refl _ _) _),below_drewN hb _⟩
end Go.Proofs.YtollifnnpihfdaaGreatDoor
