import Derived.Test.YtnpaoepkpdileaaGreatDoorF11
set_option maxRecDepth 100000
set_option maxHeartbeats 64000000
set_option linter.all false
namespace Go.Proofs.YtnpaoepkpdileaaGreatDoor
open Go.RowKit
def ja:Nd:=⟨1,2,493,0,0,1,⟨#[]⟩, []⟩
def Ci:Dv:=⟨2, [ja]⟩
theorem mE {fn:Func} {i j:Nat} (h:fn.results=#[.cell i 39, .tmp j]) (tmps:Array Value) (w:World) (g:Nat) (v:Value) (hp:tmps.getD i undef= .pointer (some ⟨g,0,none⟩)) (hg:Blk w g 39 #[v]):
  (results fn tmps).run Tryz.prog w= .ok (.tuple #[.agg #[v],tmps.getD j undef]) w:=by
 have hp' :tmps[i]?.getD undef= .pointer (some ⟨g,0,none⟩):=by simpa using hp
 simp [results,h,hp',asAddr,run_loadVar_row w g 39 39 #[v] (0,0) _ hg Tryz.underlying39 rfl (bM v)]
def zK (n:Nat) (w:World) (e:Ending) (w' :World):Prop:=
 ∃ (v:Value) (ds:List Dm),e= .returned (.tuple #[.agg #[v], .int .i64 0])∧aD w' w.heap.size v ds∧ds.map Dm.dv=List.replicate n Ci∧Below w.heap.size w w'
structure NwS (w wr:World) (j:Nat):Prop where
 low:Below w.heap.size w wr
 res:Blk wr w.heap.size 39 #[.slice none 0 0]
 o:∃ (v:Value) (es:List Dm),Blk wr (w.heap.size+1) 39 #[v]∧aD wr (w.heap.size+1+1) v es∧es.map Dm.dv=List.replicate j Ci
theorem FE (n:Nat) (h1:1≤n) (h3:n≤3) (w:World):Calls Tryz.prog 35 #[.int .i64 (n:Int)] w (zK n w):=by
 have i1:¬ (n:Int) < 1:=by omega
 have i2:¬ (3:Int) < (n:Int):=by omega
 have hs1:(w.alloc (.cells #[.slice none 0 0] 39)).heap.size=w.heap.size+1:=by simp
 have S0:=Hd (show NwS w ((w.alloc (.cells #[.slice none 0 0] 39)).alloc (.cells #[.slice none 0 0] 39)) 0 from
  ⟨((Below.refl w.heap.size w).alloc (Nat.le_refl _) _).alloc (by rw [hs1];omega) _,(Blk.new w #[.slice none 0 0] 39).alloc _, .slice none 0 0, [],by
   have:=Blk.new (w.alloc (.cells #[.slice none 0 0] 39)) #[.slice none 0 0] 39;rw [hs1] at this;exact this,aD.nil _ _,rfl⟩)
 clear hs1;go_in;go_wp2_with fail;generalize (w.alloc (.cells #[.slice none 0 0] 39)).alloc (.cells #[.slice none 0 0] 39)=w0 at *;clear i1 i2;go_loopw [5] (fun i wr=>∃ j:Nat,j≤n∧i= .int .i64 j∧Hid (NwS w wr j)) (fun i _=>n - (intOf i).toNat);case atStart=>exact ⟨0,Nat.zero_le _,rfl,S0⟩
 case round=>
  clear S0;obtain ⟨j,hj,rfl,HS⟩:=hrel;obtain ⟨v,es,hob,hof,hoe⟩:=HS.o.o;obtain ⟨Ao,co,rfl,_⟩:=hof.own.at;have hel:es.length=j:=by have:=congrArg List.length hoe;simpa using this
  have c0:=hob.cell 0;by_cases hlt:j < n;case pos=>
   have j1:(j:Int) < (n:Int):=(by omega);obtain ⟨wj1,wj2⟩:=dB (q:=j) (n:=3) (by omega) (by omega);have HOB:=Hd hob;have HOF:=Hd hof;have HOE:=Hd hoe;have HEL:=Hd (show es.length≤3 by omega);have RWN:=Hd (aR ENd wr (ndC ja (.slice none 0 0)) 124 ⟨ja,none,0⟩ rfl (Nat.lt_succ_self wr.heap.size));clear hob hof hoe hel;have hsa:(wr.alloc (.cells (ndC ja (.slice none 0 0)) 124)).heap.size=wr.heap.size+1:=(by simp);have HN:=Hd (show ay ENd (wr.alloc (.cells (ndC ja (.slice none 0 0)) 124)) wr.heap.size (.slice (some ⟨wr.heap.size,0,none⟩) 1 1) [(⟨ja,none,0⟩:Nm)] from
    ⟨rfl, .inr ⟨wr.heap.size,1,ndC ja (.slice none 0 0),rfl,Nat.le_refl _,heap_alloc_new wr _,Nat.le_refl _,by unfold maxLen;omega,rfl,rfl⟩⟩)
   have HF2:=Hd ((HOF.o.below ((Below.refl wr.heap.size wr).alloc (Nat.le_refl _) (.cells (ndC ja (.slice none 0 0)) 124))));have RWD:=Hd (aR EDv (wr.alloc (.cells (ndC ja (.slice none 0 0)) 124)) (dvC 2 (.slice (some ⟨wr.heap.size,0,none⟩) 1 1)) 127 ⟨2, [⟨ja,none,0⟩],some ⟨wr.heap.size,0,none⟩,1⟩ rfl (Nat.lt_succ_self _));have HF3:=Hd (HF2.o.below ((Below.refl _ (wr.alloc (.cells (ndC ja (.slice none 0 0)) 124))).alloc (Nat.le_refl _) (.cells (dvC 2 (.slice (some ⟨wr.heap.size,0,none⟩) 1 1)) 127)));go_upto_region 7 with fail;go_wp2_with (at_builtin;refine ak EDv rfl (.tmp 19) (.tmp 23) rfl (w.heap.size+1+1) (.slice Ao es.length co) es rfl HF3.o.own (wr.heap.size+1+1) (some ⟨wr.heap.size+1,0,none⟩) 1 1 [⟨2, [⟨ja,none,0⟩],some ⟨wr.heap.size,0,none⟩,1⟩] rfl rfl (by have:=RWD.o;rw [hsa] at this;exact this) (by have:=HEL.o;simp;omega) (by have:=HOB.o.lt;simp;omega) ?_);intro v9 w9 ho9 hg9 oW;obtain ⟨A9,c9,e9,_⟩:=ho9.at;have e9x:v9= .slice A9 (es.length+1) c9:=(by rw [e9];simp);clear e9;subst e9x;clear c0;have hgw:w.heap.size+1 < wr.heap.size:=HOB.o.lt;have hne:∀ g,g≤w.heap.size+1→(Value.slice Ao es.length co).ownBlock≠some g:=fun g hg e=>by have:=HOF.o.own.ge g e;omega
   have HO9:=Hd (((HOB.o.alloc (.cells (ndC ja (.slice none 0 0)) 124)).alloc (.cells (dvC 2 (.slice (some ⟨wr.heap.size,0,none⟩) 1 1)) 127)).grown hg9 (hne _ (Nat.le_refl _)));have c0:=HO9.o.cell 0;have f0:=HO9.o.free 0;have hfs:=aD.app (d:=⟨2, [⟨ja,none,0⟩],some ⟨wr.heap.size,0,none⟩,1⟩) HF3.o ((HN.o.alloc _).low (by omega)) (by show 1≤1000;omega) (fun x hx=>by
    rw [List.mem_singleton.1 hx];exact ⟨ay.nil _ _,by show (0:Nat)≤1000;omega,by show (0:Nat)≤1000;omega,fun y hy=>by cases hy⟩) (fun d' hd' g e r=>by
    have h1:=(HOF.o.nodes d' hd').1.lt g e;injection r with r;have:wr.heap.size=g:=r;omega) ho9 hg9 (by have:=HEL.o;omega)
   have HN9:=Hd (show NwS w (w9.setCell ⟨w.heap.size+1,0,none⟩ (.slice A9 (es.length+1) c9)) (j+1) from
    ⟨(((HS.o.low.alloc HS.o.low.size _).alloc (by simp;omega) _).grown hg9 (by simp;omega) (fun q e=>by have:=HOF.o.own.ge q e;omega)).setCell (p:=⟨w.heap.size+1,0,none⟩) (by show w.heap.size≤w.heap.size+1;omega) _,
     ((((HS.o.res.alloc _).alloc _).grown hg9 (hne _ (by omega))).ag _ (by show w.heap.size≠w.heap.size+1;omega)),
     .slice A9 (es.length+1) c9,_,HO9.o.put 0 _,hfs.far (av w9 (w.heap.size+1) 0 _) (fun q e=>by injection e with e;subst e;exact hfs.old (by omega)),by
      rw [List.map_append,HOE.o,List.replicate_succ'];rfl⟩)
   clear ho9 hg9 oW hne hfs;go_wp2_with fail;go_roundw;case rel=>exact ⟨j+1,hlt,by go_num,HN9⟩
   case measure=>simp [intOf];omega
  case neg=>
   have j1:¬ (j:Int) < (n:Int):=(by omega);have hjn:j=n:=(by omega);have HOB:=Hd hob;have Bt:=Hd HS.o.res;have rR:=Hd HS.o.low;have HFF:=Hd (hof.far (aA wr w.heap.size #[.slice Ao es.length co]) (fun q e=>by injection e with e;subst e;exact hof.old (by omega)));rw [hjn] at hoe;have HOE:=Hd hoe;clear hob hof hoe HS hel hjn;go_wp2_with (first | ((with_reducible refine ax ?_ 39 (.tmp 4) ?_ HOB.o ?_ _ Tryz.underlying39 ?_ ?_ ?_);(iterate 4 rfl);exact bM _) | ((with_reducible refine ae ?_ 39 (.tmp 2) (.tmp 26) ?_ Bt.o #[.slice Ao es.length co] ?_ ?_ ?_ ?_ ?_ ?_);(iterate 4 rfl);(exact bM _);rfl;(simp [Value.oneCell'])));refine bodyPost_ret (mE (fn:=Tryz.f35) rfl _ _ w.heap.size (.slice Ao es.length co) rfl (Blk.row Bt.o _)) rfl ?_;exact ⟨_,es,rfl,HFF.o.low (by omega),HOE.o,ai rR.o (Nat.le_refl _) _⟩
structure Sl where
 A:Option Addr
 n:Nat
 c:Nat
abbrev Sl.v (s:Sl):Value:= .slice s.A s.n s.c
structure cZ where
 d:Int
 i:Int
 o:Sl
 u:Bool
 n:Int
 ps:Sl
 gs:Sl
structure aS where
 gv:ByteArray
 pa:ByteArray
 dd:Int
 di:Int
 nm:ByteArray
 ro:Int
 mo:Int
 pe:Int
def dR (c:Ctx) (r:cZ) (it:Value):Array Value:=#[.int .i64 c.ph, .int .i64 (c.p 0), .int .i64 (c.p 1), .int .i64 (c.p 2), .int .i64 (c.p 3), .int .i64 (c.p 4), .int .i64 (c.p 5), .int .i64 (c.p 6), .int .i64 (c.p 7), .int .i64 r.d, .int .i64 r.i, .string c.comm, .string c.exe,r.o.v, .bool r.u, .int .i64 r.n, .int .i64 (c.a 0), .int .i64 (c.a 1), .int .i64 (c.a 2), .int .i64 (c.a 3),r.ps.v,r.gs.v, .int .i64 c.ex,it, .int .i64 c.ty]
def aG (i:Itm) (r:aS):Array Value:=#[.string r.gv, .string r.pa, .int .i64 r.dd, .int .i64 r.di, .string r.nm, .int .i64 i.dev, .int .i64 i.ino, .int .i64 r.ro, .int .i64 i.kind, .int .i64 r.mo, .int .i64 i.uid, .int .i64 i.gid, .int .i64 r.pe]
abbrev rV (c:Ctx) (r:cZ) (it:Value):Value:= .agg (dR c r it)
abbrev mJ (i:Itm) (r:aS):Value:= .agg (aG i r)
section
variable {w:World} {g:Nat} {c:Ctx} {r:cZ} {it:Value} {i:Itm} {ir:aS}
abbrev cB (w:World) (g:Nat) (c:Ctx) (r:cZ) (it:Value):Prop:=Blk w g 36 (dR c r it)
abbrev nX (w:World) (g:Nat) (i:Itm) (r:aS):Prop:=Blk w g 77 (aG i r)
abbrev dH (w:World) (g:Nat) (fd op nu:Int) (tx:ByteArray) (ot:Int):Prop:=Blk w g 55 (bO fd op nu tx ot)
theorem cB.ph (h:cB w g c r it):w.cell? ⟨g,0,none⟩=some (.int .i64 c.ph):=h.cell 0
theorem cB.p0 (h:cB w g c r it):w.cell? ⟨g,1,none⟩=some (.int .i64 (c.p 0)):=h.cell 1
theorem cB.p1 (h:cB w g c r it):w.cell? ⟨g,2,none⟩=some (.int .i64 (c.p 1)):=h.cell 2
theorem cB.p2 (h:cB w g c r it):w.cell? ⟨g,3,none⟩=some (.int .i64 (c.p 2)):=h.cell 3
theorem cB.p3 (h:cB w g c r it):w.cell? ⟨g,4,none⟩=some (.int .i64 (c.p 3)):=h.cell 4
theorem cB.p4 (h:cB w g c r it):w.cell? ⟨g,5,none⟩=some (.int .i64 (c.p 4)):=h.cell 5
theorem cB.p5 (h:cB w g c r it):w.cell? ⟨g,6,none⟩=some (.int .i64 (c.p 5)):=h.cell 6
theorem cB.p6 (h:cB w g c r it):w.cell? ⟨g,7,none⟩=some (.int .i64 (c.p 6)):=h.cell 7
theorem cB.p7 (h:cB w g c r it):w.cell? ⟨g,8,none⟩=some (.int .i64 (c.p 7)):=h.cell 8
theorem cB.comm (h:cB w g c r it):w.cell? ⟨g,11,none⟩=some (.string c.comm):=h.cell 11
theorem cB.exe (h:cB w g c r it):w.cell? ⟨g,12,none⟩=some (.string c.exe):=h.cell 12
theorem cB.a0 (h:cB w g c r it):w.cell? ⟨g,16,none⟩=some (.int .i64 (c.a 0)):=h.cell 16
theorem cB.a1 (h:cB w g c r it):w.cell? ⟨g,17,none⟩=some (.int .i64 (c.a 1)):=h.cell 17
theorem cB.a2 (h:cB w g c r it):w.cell? ⟨g,18,none⟩=some (.int .i64 (c.a 2)):=h.cell 18
theorem cB.a3 (h:cB w g c r it):w.cell? ⟨g,19,none⟩=some (.int .i64 (c.a 3)):=h.cell 19
theorem cB.ex (h:cB w g c r it):w.cell? ⟨g,22,none⟩=some (.int .i64 c.ex):=h.cell 22
theorem cB.ty (h:cB w g c r it):w.cell? ⟨g,24,none⟩=some (.int .i64 c.ty):=h.cell 24
theorem cB.c9 (h:cB w g c r it):w.cell? ⟨g,9,none⟩=some (.int .i64 r.d):=h.cell 9
theorem cB.c10 (h:cB w g c r it):w.cell? ⟨g,10,none⟩=some (.int .i64 r.i):=h.cell 10
theorem cB.c13 (h:cB w g c r it):w.cell? ⟨g,13,none⟩=some r.o.v:=h.cell 13
theorem cB.c14 (h:cB w g c r it):w.cell? ⟨g,14,none⟩=some (.bool r.u):=h.cell 14
theorem cB.items (h:cB w g c r it):w.cell? ⟨g,23,none⟩=some it:=h.cell 23
theorem nX.dev (h:nX w g i ir):w.cell? ⟨g,5,none⟩=some (.int .i64 i.dev):=h.cell 5
theorem nX.ino (h:nX w g i ir):w.cell? ⟨g,6,none⟩=some (.int .i64 i.ino):=h.cell 6
theorem nX.kind (h:nX w g i ir):w.cell? ⟨g,8,none⟩=some (.int .i64 i.kind):=h.cell 8
theorem nX.uid (h:nX w g i ir):w.cell? ⟨g,10,none⟩=some (.int .i64 i.uid):=h.cell 10
theorem nX.gid (h:nX w g i ir):w.cell? ⟨g,11,none⟩=some (.int .i64 i.gid):=h.cell 11
theorem dH.c0 {fd op nu:Int} {tx:ByteArray} {ot:Int} (h:dH w g fd op nu tx ot):w.cell? ⟨g,0,none⟩=some (.int .i64 fd):=h.cell 0
theorem dH.c1 {fd op nu:Int} {tx:ByteArray} {ot:Int} (h:dH w g fd op nu tx ot):w.cell? ⟨g,1,none⟩=some (.int .i64 op):=h.cell 1
theorem dH.c2 {fd op nu:Int} {tx:ByteArray} {ot:Int} (h:dH w g fd op nu tx ot):w.cell? ⟨g,2,none⟩=some (.int .i64 nu):=h.cell 2
theorem dH.c3 {fd op nu:Int} {tx:ByteArray} {ot:Int} (h:dH w g fd op nu tx ot):w.cell? ⟨g,3,none⟩=some (.string tx):=h.cell 3
theorem dH.c4 {fd op nu:Int} {tx:ByteArray} {ot:Int} (h:dH w g fd op nu tx ot):w.cell? ⟨g,4,none⟩=some (.int .i64 ot):=h.cell 4
theorem dY (c:Ctx) (r:cZ) (it:Value):(Tryz.prog.info? 36).map (·.size)=some (dR c r it).size:=by show _=some 25;kernel_rfl
theorem gB (i:Itm) (r:aS):(Tryz.prog.info? 77).map (·.size)=some (aG i r).size:=by show _=some 13;kernel_rfl
theorem pq (fd op nu:Int) (tx:ByteArray) (ot:Int):(Tryz.prog.info? 55).map (·.size)=some (bO fd op nu tx ot).size:=by show _=some 5;kernel_rfl
theorem pE (w:World) (c:Ctx) (r:cZ) (it:Value) (o:Obj):cB ((w.alloc (.cells (dR c r it) 36)).alloc o) w.heap.size c r it:=(Blk.new w _ _).alloc o
theorem rq (w:World) (i:Itm) (r:aS) (o:Obj):nX ((w.alloc o).alloc (.cells (aG i r) 77)) (w.heap.size+1) i r:=by
 have:=Blk.new (w.alloc o) (aG i r) 77;simpa using this
end
attribute [local irreducible] dR aG
def uU (c:Ctx) (i:Itm) (f:Int):Int:=if eU c f=true then rU c i f else 0
theorem jY {c:Ctx} {i:Itm} {f:Int} (h:eU c f=true):uU c i f=rU c i f:=if_pos h
theorem zS {c:Ctx} {i:Itm} {f:Int} (h:eU c f=false):uU c i f=0:=if_neg (by rw [h];decide)
theorem uV {x y:Int} {a b:Bool} (h:x=y) (k:a=b):Ending.returned (.tuple #[.int .i64 x, .bool a])=Ending.returned (.tuple #[.int .i64 y, .bool b]):=by rw [h,k]
theorem FN (op a b:Int) (ho:1≤op∧op≤8) (w:World):Calls Tryz.prog 41 #[.int .i64 op, .int .i64 a, .int .i64 b] w fun e w' =>e= .returned (.bool (zR op a b))∧w=w' :=by
 have hcs:op=1∨op=2∨op=3∨op=4∨op=5∨op=6∨op=7∨op=8:=by omega
 clear ho;rcases hcs with rfl | rfl | rfl | rfl | rfl | rfl | rfl | rfl;all_goals
  go_in;go_wp2_with fail;go_ret;exact ⟨bR rfl,rfl⟩
theorem FO (op a b:Int) (ho:1≤op∧op≤8) (w:World):Calls Tryz.prog 45 #[.int .i64 op, .int .i64 a, .int .i64 b] w fun e w' =>e= .returned (.bool (zR op a b))∧w=w' :=by
 have hcs:op=1∨op=2∨op=3∨op=4∨op=5∨op=6∨op=7∨op=8:=by omega
 clear ho;rcases hcs with rfl | rfl | rfl | rfl | rfl | rfl | rfl | rfl;all_goals
  go_in;go_wp2_with fail;go_ret;exact ⟨bR rfl,rfl⟩
theorem Cy (c:Ctx) (r:cZ) (it:Value) (i:Itm) (ir:aS) (f:Int) (hf:15≤f∧f≤21) (w:World):Calls Tryz.prog 67 #[.int .i64 f,rV c r it,mJ i ir] w fun e w' =>e= .returned (.tuple #[.int .i64 (rU c i f), .bool true])∧Below w.heap.size w w' :=by
 have HC:=pE w c r it (.cells (aG i ir) 77);have HI:=rq w i ir (.cells (dR c r it) 36);have HB:=Hd (((Below.refl w.heap.size w).alloc (Nat.le_refl _) (.cells (dR c r it) 36)).alloc (by simp) (.cells (aG i ir) 77));have q22:=HC.ex;have q5:=HI.dev;have q6:=HI.ino;have q8:=HI.kind;have q10:=HI.uid;have q11:=HI.gid;clear HC HI;have hcs:f=15∨(f=16∧0≤c.ex)∨(f=16∧¬ 0≤c.ex)∨f=17∨f=18∨f=19∨f=20∨f=21:=by omega
 clear hf;rcases hcs with rfl | ⟨rfl,h⟩ | ⟨rfl,h⟩ | rfl | rfl | rfl | rfl | rfl;all_goals
  go_in;go_wp2_with fail;go_ret2;exact ⟨uV (by unfold rU;simp;try (first | omega | (split <;> omega))) rfl,HB.o⟩
theorem xn {c:Ctx} {f:Int} (h:f≤14):eU c f=true:=by unfold eU;rw [if_neg (by omega)];simp;omega
theorem kC {c:Ctx} {f:Int} (h:15≤f∧f≤21):eU c f=decide (c.ph=2):=if_pos h
theorem nY (c:Ctx):eU c 22=decide (c.ty≠0):=by unfold eU;rw [if_neg (by omega)];simp
theorem xu (c:Ctx) (r:cZ) (it:Value) (i:Itm) (ir:aS) (f:Int) (hf:1≤f∧f≤12) (w:World):Calls Tryz.prog 40 #[.int .i64 f,rV c r it,mJ i ir] w fun e w' =>e= .returned (.tuple #[.int .i64 (uU c i f), .bool (eU c f)])∧Below w.heap.size w w' :=by
 have HC:=pE w c r it (.cells (aG i ir) 77);have HI:=rq w i ir (.cells (dR c r it) 36);have HB:=Hd (((Below.refl w.heap.size w).alloc (Nat.le_refl _) (.cells (dR c r it) 36)).alloc (by simp) (.cells (aG i ir) 77));have q0:=HC.p0;have q1:=HC.p1;have q2:=HC.p2;have q3:=HC.p3;have q4:=HC.p4;have q5:=HC.p5;have q6:=HC.p6;have q7:=HC.p7;have a0:=HC.a0;have a1:=HC.a1;have a2:=HC.a2;have a3:=HC.a3;clear HC HI;have HH:=Hd (xn (c:=c) (f:=f) (by omega));have HN:=Hd (jY (i:=i) HH.o);have hcs:f=1∨f=2∨f=3∨f=4∨f=5∨f=6∨f=7∨f=8∨f=9∨f=10∨f=11∨f=12:=by omega
 clear hf;rcases hcs with rfl | rfl | rfl | rfl | rfl | rfl | rfl | rfl | rfl | rfl | rfl | rfl;all_goals
  go_in;go_wp2_with fail;go_ret2;exact ⟨uV (by rw [HN.o];unfold rU;simp) HH.o.symm,HB.o⟩
theorem zT (c:Ctx) (r:cZ) (it:Value) (i:Itm) (ir:aS) (w:World):Calls Tryz.prog 40 #[.int .i64 22,rV c r it,mJ i ir] w fun e w' =>e= .returned (.tuple #[.int .i64 (uU c i 22), .bool (eU c 22)])∧Below w.heap.size w w' :=by
 have HC:=pE w c r it (.cells (aG i ir) 77);have HI:=rq w i ir (.cells (dR c r it) 36);have HB:=Hd (((Below.refl w.heap.size w).alloc (Nat.le_refl _) (.cells (dR c r it) 36)).alloc (by simp) (.cells (aG i ir) 77));have q:=HC.ty;clear HC HI;have HH:=Hd (nY c);go_in;go_wp2_with fail;go_quiet (fail);go_wp2_with fail;go_ret2;refine ⟨uV ?_ ?_,below_drewN HB.o _⟩
 · unfold uU;by_cases h:c.ty=0
   · rw [HH.o,if_neg (by simpa using h)];exact h
   · rw [HH.o,if_pos (by simpa using h)];rfl
 · rw [HH.o];by_cases h:c.ty=0 <;> simp [h]
theorem zU (c:Ctx) (r:cZ) (it:Value) (i:Itm) (ir:aS) (f:Int) (hr:15≤f∧f≤21) (hp:c.ph≠2) (w:World):Calls Tryz.prog 40 #[.int .i64 f,rV c r it,mJ i ir] w fun e w' =>e= .returned (.tuple #[.int .i64 (uU c i f), .bool (eU c f)])∧Below w.heap.size w w' :=by
 have HC:=pE w c r it (.cells (aG i ir) 77);have HI:=rq w i ir (.cells (dR c r it) 36);have HB:=Hd (((Below.refl w.heap.size w).alloc (Nat.le_refl _) (.cells (dR c r it) 36)).alloc (by simp) (.cells (aG i ir) 77));have q:=HC.ph;clear HC HI;have HH:=Hd (show eU c f=false by rw [kC hr];simpa using hp);have HN:=Hd (zS (i:=i) HH.o);have hpb:(c.ph != 2)=true:=by simpa using hp
 have n1:(f == 1)=false:=by simp;omega
 have n2:(f == 2)=false:=by simp;omega
 have n3:(f == 3)=false:=by simp;omega
 have n4:(f == 4)=false:=by simp;omega
 have n5:(f == 5)=false:=by simp;omega
 have n6:(f == 6)=false:=by simp;omega
 have n7:(f == 7)=false:=by simp;omega
 have n8:(f == 8)=false:=by simp;omega
 have n9:(f == 9)=false:=by simp;omega
 have n10:(f == 10)=false:=by simp;omega
 have n11:(f == 11)=false:=by simp;omega
 have n12:(f == 12)=false:=by simp;omega
 have n22:(f == 22)=false:=by simp;omega
 clear hr hp;go_in;go_wp2_with fail;go_ret2;exact ⟨uV HN.o.symm HH.o.symm,HB.o⟩
theorem xw (c:Ctx) (r:cZ) (it:Value) (i:Itm) (ir:aS) (f:Int) (hr:15≤f∧f≤21) (hp:c.ph=2) (w:World):Calls Tryz.prog 40 #[.int .i64 f,rV c r it,mJ i ir] w fun e w' =>e= .returned (.tuple #[.int .i64 (uU c i f), .bool (eU c f)])∧Below w.heap.size w w' :=by
 have HC:=pE w c r it (.cells (aG i ir) 77);have HI:=rq w i ir (.cells (dR c r it) 36);have HB:=Hd (((Below.refl w.heap.size w).alloc (Nat.le_refl _) (.cells (dR c r it) 36)).alloc (by simp) (.cells (aG i ir) 77));have q:=HC.ph;have HH:=Hd (show eU c f=true by rw [kC hr];simpa using hp);have HN:=Hd (jY (i:=i) HH.o);have HX:=Hd (Cy c r it i ir f hr);have hpb:(c.ph != 2)=false:=by simpa using hp
 have HCH:=Hd HC;have HIH:=Hd HI;have n1:(f == 1)=false:=by simp;omega
 have n2:(f == 2)=false:=by simp;omega
 have n3:(f == 3)=false:=by simp;omega
 have n4:(f == 4)=false:=by simp;omega
 have n5:(f == 5)=false:=by simp;omega
 have n6:(f == 6)=false:=by simp;omega
 have n7:(f == 7)=false:=by simp;omega
 have n8:(f == 8)=false:=by simp;omega
 have n9:(f == 9)=false:=by simp;omega
 have n10:(f == 10)=false:=by simp;omega
 have n11:(f == 11)=false:=by simp;omega
 have n12:(f == 12)=false:=by simp;omega
 have n22:(f == 22)=false:=by simp;omega
 clear hr hp HC HI;go_in;go_wp2_with (first | ((with_reducible refine ax ?_ 36 (.tmp 4) ?_ HCH.o ?_ _ Tryz.underlying36 ?_ ?_ ?_);(iterate 4 rfl);exact dY _ _ _) | ((with_reducible refine ax ?_ 77 (.tmp 5) ?_ HIH.o ?_ _ Tryz.underlying77 ?_ ?_ ?_);(iterate 4 rfl);exact gB _ _));refine (HX.o _).mono ?_;rintro e w1 ⟨rfl,hb⟩;have HB1:=Hd (HB.o.trans (hb.mono HB.o.size));go_wp2_with fail;go_ret2;exact ⟨uV HN.o.symm HH.o.symm,HB1.o⟩
theorem qw (c:Ctx) (r:cZ) (it:Value) (i:Itm) (ir:aS) (f:Int) (hf:1≤f∧f≤22) (h13:f≠13) (h14:f≠14) (w:World):Calls Tryz.prog 40 #[.int .i64 f,rV c r it,mJ i ir] w fun e w' =>e= .returned (.tuple #[.int .i64 (uU c i f), .bool (eU c f)])∧Below w.heap.size w w' :=by
 by_cases hlow:f≤14
 · exact xu c r it i ir f (by omega) w
 · by_cases h22:f=22
   · subst h22;exact zT c r it i ir w
   · by_cases hp:c.ph=2
     · exact xw c r it i ir f (by omega) hp w
     · exact zU c r it i ir f (by omega) hp w
end Go.Proofs.YtnpaoepkpdileaaGreatDoor
namespace Go.Proofs.YtnpaoepkpdileaaGreatDoor
open Go.RowKit
attribute [local irreducible] dR aG bD
theorem Hu (w:World) (fd op nu:Int) (tx:ByteArray) (ot:Int) (c:Ctx) (r:cZ) (it:Value) (i:Itm) (ir:aS):
   dH (((w.alloc (.cells (bO fd op nu tx ot) 55)).alloc (.cells (dR c r it) 36)).alloc (.cells (aG i ir) 77)) w.heap.size fd op nu tx ot∧
   cB (((w.alloc (.cells (bO fd op nu tx ot) 55)).alloc (.cells (dR c r it) 36)).alloc (.cells (aG i ir) 77)) (w.heap.size+1) c r it∧
   nX (((w.alloc (.cells (bO fd op nu tx ot) 55)).alloc (.cells (dR c r it) 36)).alloc (.cells (aG i ir) 77)) (w.heap.size+1+1) i ir∧
   Below w.heap.size w (((w.alloc (.cells (bO fd op nu tx ot) 55)).alloc (.cells (dR c r it) 36)).alloc (.cells (aG i ir) 77)):=by
 refine ⟨((Blk.new w _ _).alloc _).alloc _,?_,?_,(((Below.refl _ _).alloc (Nat.le_refl _) _).alloc (by simp) _).alloc (by simp;omega) _⟩
 · have:=(Blk.new (w.alloc (.cells (bO fd op nu tx ot) 55)) (dR c r it) 36).alloc (.cells (aG i ir) 77);simpa using this
 · have:=Blk.new ((w.alloc (.cells (bO fd op nu tx ot) 55)).alloc (.cells (dR c r it) 36)) (aG i ir) 77;simpa using this
theorem pF {c:Ctx} {fd op nu:Int} {tx:ByteArray} {ot:Int} {i:Itm} (h:bD fd=true):bA c fd op nu tx ot i=(((if fd=14 then c.comm else c.exe).toList == tx.toList) == decide (op=1)):=by
 unfold bA cz;rw [if_neg (by rw [h];simp),if_pos h]
theorem nZ {c:Ctx} {fd op nu:Int} {tx:ByteArray} {ot:Int} {i:Itm} (h:bD fd=false) (k:eU c fd=false∨(ot≠0∧eU c ot=false)):bA c fd op nu tx ot i=false:=by
 unfold bA;rw [if_pos ⟨h,k⟩]
theorem lL {c:Ctx} {fd op nu:Int} {tx:ByteArray} {ot:Int} {i:Itm} (h:bD fd=false) (h1:eU c fd=true) (h2:ot=0∨eU c ot=true):bA c fd op nu tx ot i=zR op (uU c i fd) (if ot=0 then nu else uU c i ot):=by
 unfold bA cz;rw [if_neg (by rintro ⟨_,k | k⟩;rw [h1] at k;cases k;rcases h2 with h2 | h2;exact k.1 h2;rw [h2] at k;cases k.2),if_neg (by rw [h];decide),jY h1];by_cases h0:ot=0
 · rw [if_pos h0,if_pos h0]
 · rw [if_neg h0,if_neg h0,jY (h2.resolve_left h0)]
theorem deq (a b:Int):decide (a=b)=(a == b):=by by_cases h:a=b <;> simp [h]
theorem lM {fd:Int} (h:bD fd=true):fd=13∨fd=14:=by unfold bD at h;simpa using h
theorem mK {fd:Int} (h:bD fd=false):fd≠13∧fd≠14:=by unfold bD at h;simpa using h
attribute [local irreducible] eU uU zR
theorem zV (c:Ctx) (r:cZ) (it:Value) (fd op nu:Int) (tx:ByteArray) (ot:Int) (i:Itm) (ir:aS) (hf:1≤fd∧fd≤22) (ho:1≤op∧op≤8) (hot:ot=0∨((1≤ot∧ot≤22)∧ot≠13∧ot≠14)) (w:World):
   Calls Tryz.prog 21 #[kz fd op nu tx ot,rV c r it,mJ i ir] w fun e w' =>e= .returned (.bool (bA c fd op nu tx ot i))∧Below w.heap.size w w' :=by
 obtain ⟨hT,hC,hI,hB⟩:=Hu w fd op nu tx ot c r it i ir;have HT:=Hd hT;have HC:=Hd hC;have HI:=Hd hI;have HB:=Hd hB;have CM:=Hd (fun a b W=>FN op a b ho W);have q0:=hT.c0;have q1:=hT.c1;have q2:=hT.c2;have q3:=hT.c3;have q4:=hT.c4;have qc:=hC.comm;have qe:=hC.exe;clear hT hC hI hB ho;cases ht:bD fd
 · have HTX:=Hd ht;have HV:=Hd (fun W=>nT fd W);obtain ⟨n13,n14⟩:=mK ht;have CF:=Hd (fun W=>qw c r it i ir fd hf n13 n14 W);rw [ht] at HV;clear hf ht n13 n14 qc qe;go_in;go_wp2_with fail;refine (HV.o _).mono ?_;rintro e w1 ⟨rfl,rfl⟩;go_wp2_with (first | ((with_reducible refine ax ?_ 36 (.tmp 4) ?_ HC.o ?_ _ Tryz.underlying36 ?_ ?_ ?_);(iterate 4 rfl);exact dY _ _ _) | ((with_reducible refine ax ?_ 77 (.tmp 5) ?_ HI.o ?_ _ Tryz.underlying77 ?_ ?_ ?_);(iterate 4 rfl);exact gB _ _));refine (CF.o _).mono ?_;rintro e w1 ⟨rfl,hb⟩;have hT1:dH w1 w.heap.size fd op nu tx ot:=HT.o.below hb;have HC1:=Hd (HC.o.below hb);have HI1:=Hd (HI.o.below hb);have HB1:=Hd (HB.o.trans (hb.mono HB.o.size));clear q0 q1 q2 q3 q4 HT HC HI HB hb;have q0:=hT1.c0;have q1:=hT1.c1;have q2:=hT1.c2;have q3:=hT1.c3;have q4:=hT1.c4;have HT1:=Hd hT1;clear hT1;cases h1:eU c fd
   · have HE:=Hd (nZ (op:=op) (nu:=nu) (tx:=tx) (ot:=ot) (i:=i) HTX.o (.inl h1));clear h1;go_wp2_with fail;go_ret;exact ⟨bR HE.o.symm,HB1.o⟩
   · by_cases h0:ot=0
     · subst h0;have HE:=Hd (lL (op:=op) (nu:=nu) (tx:=tx) (ot:=0) (i:=i) HTX.o h1 (.inl rfl));rw [if_pos rfl] at HE;clear h1;go_wp2_with fail;refine (CM.o _ _ _).mono ?_;rintro e w2 ⟨rfl,rfl⟩;go_wp2_with fail;go_ret;exact ⟨bR HE.o.symm,HB1.o⟩
     · obtain ⟨o1,o2,o3⟩:=hot.resolve_left h0;have CO:=Hd (fun W=>qw c r it i ir ot o1 o2 o3 W);have b0:(ot != 0)=true:=(by simpa using h0);have H0:=Hd h0;have H1:=Hd h1;clear hot o1 o2 o3 h0 h1;go_wp2_with (first | ((with_reducible refine ax ?_ 36 (.tmp 4) ?_ HC1.o ?_ _ Tryz.underlying36 ?_ ?_ ?_);(iterate 4 rfl);exact dY _ _ _) | ((with_reducible refine ax ?_ 77 (.tmp 5) ?_ HI1.o ?_ _ Tryz.underlying77 ?_ ?_ ?_);(iterate 4 rfl);exact gB _ _));refine (CO.o _).mono ?_;rintro e w2 ⟨rfl,hb⟩;have HB2:=Hd (aa HB1.o hb);have k1:=(show dH w2 w.heap.size fd op nu tx ot from HT1.o.below hb).c1;cases h2:eU c ot
       · have HE:=Hd (nZ (op:=op) (nu:=nu) (tx:=tx) (i:=i) HTX.o (.inr ⟨H0.o,h2⟩));clear h2;go_wp2_with fail;go_ret;exact ⟨bR HE.o.symm,HB2.o⟩
       · have HE:=Hd (lL (op:=op) (nu:=nu) (tx:=tx) (i:=i) HTX.o H1.o (.inr h2));rw [if_neg H0.o] at HE;clear h2;go_wp2_with fail;refine (CM.o _ _ _).mono ?_;rintro e w3 ⟨rfl,rfl⟩;go_wp2_with fail;go_ret;exact ⟨bR HE.o.symm,HB2.o⟩
 · have HV:=Hd (fun W=>nT fd W);rw [ht] at HV;have HE:=Hd (pF (c:=c) (op:=op) (nu:=nu) (tx:=tx) (ot:=ot) (i:=i) ht);have hv:=lM ht;clear hf hot ht CM;rcases hv with rfl | rfl;all_goals
     go_in;go_wp2_with fail;refine (HV.o _).mono ?_;rintro e w1 ⟨rfl,rfl⟩;go_wp2_with fail;go_ret;exact ⟨bR (by rw [HE.o,deq];simp),HB.o⟩
end Go.Proofs.YtnpaoepkpdileaaGreatDoor
