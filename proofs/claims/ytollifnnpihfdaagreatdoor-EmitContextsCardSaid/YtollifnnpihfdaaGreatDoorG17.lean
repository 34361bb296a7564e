import Derived.Test.YtollifnnpihfdaaGreatDoorG14
import Derived.Test.YtollifnnpihfdaaGreatDoorG16
set_option maxRecDepth 100000
set_option maxHeartbeats 64000000
set_option linter.all false
namespace Go.Proofs.YtollifnnpihfdaaGreatDoor
open Go.RowKit
abbrev JI:Array Value:=bP 0 0 0 ⟨#[]⟩ 0
structure T0 (w wr:World) (base g:Nat) (b:Int):Prop where
 only:w.grownBy wr (some g)
 src:aB wr base g b
 rb:Blk wr w.heap.size 85 JI
 h3:g < w.heap.size
 h4:base≤w.heap.size
structure T1 (w wr:World) (base g:Nat) (b:Int) (gc:Nat) (fd op nu:Int) (tx:ByteArray) (ot:Int):Prop where
 t0:T0 w wr base g b
 cb:Blk wr gc 85 (bP fd op nu tx ot)
 h2:w.heap.size < gc
section
variable {w wr w' :World} {base g gc:Nat} {b b' :Int} {fd op nu:Int} {tx:ByteArray} {ot:Int}
theorem T0.alloc (h:T0 w wr base g b) (o:Obj):T0 w (wr.alloc o) base g b:=⟨av h.only o,h.src.alloc o,h.rb.alloc o,h.h3,h.h4⟩
theorem T0.step (h:T0 w wr base g b) (hs:aB w' base g b') (hg:wr.grownBy w' (some g)):T0 w w' base g b' :=⟨h.only.trans hg,hs,h.rb.grown hg (fun e=>by injection e with e;have:=h.h3;omega),h.h3,h.h4⟩
theorem T1.alloc (h:T1 w wr base g b gc fd op nu tx ot) (o:Obj):T1 w (wr.alloc o) base g b gc fd op nu tx ot:=⟨h.t0.alloc o,h.cb.alloc o,h.h2⟩
theorem T1.step (h:T1 w wr base g b gc fd op nu tx ot) (hs:aB w' base g b') (hg:wr.grownBy w' (some g)):T1 w w' base g b' gc fd op nu tx ot:=⟨h.t0.step hs hg,h.cb.grown hg (fun e=>by injection e with e;have:=h.h2;have:=h.t0.h3;omega),h.h2⟩
theorem T0.setCell (h:T0 w wr base g b) {p:Addr} (hp:w.heap.size < p.block) (v:Value):T0 w (wr.setCell p v) base g b:=
 ⟨ag h.only (.inr (by omega)) v,h.src.setCell (by have:=h.h4;omega) (by have:=h.h3;omega) v,h.rb.af v (by omega),h.h3,h.h4⟩
theorem T1.set0 (h:T1 w wr base g b gc fd op nu tx ot) (x:Int):T1 w (wr.setCell ⟨gc,0,none⟩ (.int .i64 x)) base g b gc x op nu tx ot:=⟨h.t0.setCell h.h2 _,h.cb.put 0 (.int .i64 x),h.h2⟩
theorem T1.set1 (h:T1 w wr base g b gc fd op nu tx ot) (x:Int):T1 w (wr.setCell ⟨gc,1,none⟩ (.int .i64 x)) base g b gc fd x nu tx ot:=⟨h.t0.setCell h.h2 _,h.cb.put 1 (.int .i64 x),h.h2⟩
theorem T1.set2 (h:T1 w wr base g b gc fd op nu tx ot) (x:Int):T1 w (wr.setCell ⟨gc,2,none⟩ (.int .i64 x)) base g b gc fd op x tx ot:=⟨h.t0.setCell h.h2 _,h.cb.put 2 (.int .i64 x),h.h2⟩
theorem T1.Jn (h:T1 w wr base g b gc fd op nu tx ot) (x:ByteArray):T1 w (wr.setCell ⟨gc,3,none⟩ (.string x)) base g b gc fd op nu x ot:=⟨h.t0.setCell h.h2 _,h.cb.put 3 (.string x),h.h2⟩
theorem T1.Jo (h:T1 w wr base g b gc fd op nu tx ot) (x:Int):T1 w (wr.setCell ⟨gc,4,none⟩ (.int .i64 x)) base g b gc fd op nu tx x:=⟨h.t0.setCell h.h2 _,h.cb.put 4 (.int .i64 x),h.h2⟩
theorem T1.lt (h:T1 w wr base g b gc fd op nu tx ot):g < wr.heap.size:=aW h.t0.src
theorem T1.qs (h:T1 w wr base g b gc fd op nu tx ot):wr.cell? ⟨gc,0,none⟩=some (.int .i64 fd)∧wr.frozen? ⟨gc,0,none⟩=false∧wr.cell? ⟨gc,1,none⟩=some (.int .i64 op)∧wr.frozen? ⟨gc,1,none⟩=false∧wr.cell? ⟨gc,2,none⟩=some (.int .i64 nu)∧wr.frozen? ⟨gc,2,none⟩=false∧wr.cell? ⟨gc,3,none⟩=some (.string tx)∧wr.frozen? ⟨gc,3,none⟩=false∧wr.cell? ⟨gc,4,none⟩=some (.int .i64 ot)∧wr.frozen? ⟨gc,4,none⟩=false:=
 ⟨h.cb.cell 0,h.cb.free 0,h.cb.cell 1,h.cb.free 1,h.cb.cell 2,h.cb.free 2,h.cb.cell 3,h.cb.free 3,h.cb.cell 4,h.cb.free 4⟩
theorem T0.rs (h:T0 w wr base g b):wr.cell? ⟨w.heap.size,0,none⟩=some (.int .i64 0)∧wr.frozen? ⟨w.heap.size,0,none⟩=false∧wr.cell? ⟨w.heap.size,1,none⟩=some (.int .i64 0)∧wr.frozen? ⟨w.heap.size,1,none⟩=false∧wr.cell? ⟨w.heap.size,2,none⟩=some (.int .i64 0)∧wr.frozen? ⟨w.heap.size,2,none⟩=false∧wr.cell? ⟨w.heap.size,3,none⟩=some (.string ⟨#[]⟩)∧wr.frozen? ⟨w.heap.size,3,none⟩=false∧wr.cell? ⟨w.heap.size,4,none⟩=some (.int .i64 0)∧wr.frozen? ⟨w.heap.size,4,none⟩=false:=
 ⟨h.rb.cell 0,h.rb.free 0,h.rb.cell 1,h.rb.free 1,h.rb.cell 2,h.rb.free 2,h.rb.cell 3,h.rb.free 3,h.rb.cell 4,h.rb.free 4⟩
end
def vZ (w:World) (base g:Nat) (b:Int) (e:Ending) (w' :World):Prop:=∃ (fd op nu:Int) (tx:ByteArray) (ot:Int),e= .returned (nL fd op nu tx ot)∧(-13≤nu∧nu≤4294967295)∧tx.size≤5∧aB w' base g b∧w.grownBy w' (some g)
theorem De {f:FuncId} {fn:Func} (_hf:Tryz.prog.funcs[f]? =some fn) (h:fn.results=#[.cell 4 85]) (tmps:Array Value) (w:World) (g:Nat) (cs:Array Value) (hp:tmps.getD 4 undef= .pointer (some ⟨g,0,none⟩)) (hg:Blk w g 85 cs) (h5:cs.size=5):
  (results fn tmps).run Tryz.prog w= .ok (.agg cs) w:=
 results_cell_row h tmps w g _ cs (0,0) _ hp hg Tryz.underlying85 rfl (by rw [h5];exact uP 0 0 0 ⟨#[]⟩ 0)
theorem Df {w wr:World} {base g gc:Nat} {b b' :Int} {fd op nu:Int} {tx:ByteArray} {ot:Int} (h:T1 w wr base g b' gc fd op nu tx ot) (hn:(-13≤nu∧nu≤4294967295)∧b' ≤b) (ht:tx.size≤5):
   vZ w base g b (.returned (nL fd op nu tx ot)) (((((wr.setCell ⟨w.heap.size,0,none⟩ (.int .i64 fd)).setCell ⟨w.heap.size,1,none⟩ (.int .i64 op)).setCell ⟨w.heap.size,2,none⟩ (.int .i64 nu)).setCell ⟨w.heap.size,3,none⟩ (.string tx)).setCell ⟨w.heap.size,4,none⟩ (.int .i64 ot)):=by
 have h3:=h.t0.h3;have h4:=h.t0.h4;refine ⟨fd,op,nu,tx,ot,rfl,hn.1,ht,?_,?_⟩
 · exact (((((h.t0.src.setCell (p:=⟨w.heap.size,0,none⟩) h4 (by show w.heap.size≠g;omega) _).setCell (p:=⟨w.heap.size,1,none⟩) h4 (by show w.heap.size≠g;omega) _).setCell (p:=⟨w.heap.size,2,none⟩) h4 (by show w.heap.size≠g;omega) _).setCell (p:=⟨w.heap.size,3,none⟩) h4 (by show w.heap.size≠g;omega) _).setCell (p:=⟨w.heap.size,4,none⟩) h4 (by show w.heap.size≠g;omega) _).more hn.2
 · exact ag (ag (ag (ag (ag h.t0.only (p:=⟨w.heap.size,0,none⟩) (.inr (Nat.le_refl _)) _) (p:=⟨w.heap.size,1,none⟩) (.inr (Nat.le_refl _)) _) (p:=⟨w.heap.size,2,none⟩) (.inr (Nat.le_refl _)) _) (p:=⟨w.heap.size,3,none⟩) (.inr (Nat.le_refl _)) _) (p:=⟨w.heap.size,4,none⟩) (.inr (Nat.le_refl _)) _
theorem Dg (w:World) (base g:Nat) (b l:Int) (h:aB w base g b) (hb:b≤1000000000000):
  Calls Tryz.prog 75 #[.pointer (some ⟨g,0,none⟩), .int .i64 l] w (vZ w base g (b+20)):=by
 have HB:=Hd hb;have rz:g < w.heap.size:=aW h;have hbase:base≤w.heap.size:=by have:=h.1;omega
 have st0:T0 w (w.alloc (.cells JI 85)) base g b:=⟨av (World.grownBy.refl w (some g)) _,h.alloc _,Blk.new w _ _,rz,hbase⟩;clear h hb;go_in;go_wp2_with fail;refine (aA _ base g b 1 8 st0.src (by have:=HB.o;omega) (by omega) (by omega) (by omega)).mono ?_;rintro e w1 ⟨f,rfl,f0,f1,hs,hg⟩;have st1:=st0.step hs hg;clear hs hg st0;go_wp2_with fail;refine (aA _ base g (b+1) 1 8 st1.src (by have:=HB.o;omega) (by omega) (by omega) (by omega)).mono ?_;rintro e w2 ⟨o,rfl,o0,o1,hs,hg⟩;have st2:=st1.step hs hg;clear hs hg st1;go_wp2_with fail;refine (aF _ base g w2.heap.size (b+1+1) 9 (-1) 4294967295 _ 3 (0,0) (st2.src.alloc _) (by have:=HB.o;omega) (heap_alloc_new w2 _) (by have:=aW st2.src;omega) rfl (by omega) (by omega) rfl).mono ?_;rintro e w3 ⟨m,rfl,m0,m1,hs,hg⟩;have st3:=(st2.alloc (.cells #[.int .i64 0, .int .i64 0, .int .i64 1, .int .i64 2, .int .i64 5, .int .i64 7, .int .i64 1000, .int .i64 4294967295, .int .i64 (-1)] 3)).step hs hg;have hw3:w.heap.size < w3.heap.size:=st3.rb.lt;clear hs hg st2;have st4:T1 w (w3.alloc (.cells (bP f o m ⟨#[]⟩ 0) 85)) base g (b+1+1+1) w3.heap.size f o m ⟨#[]⟩ 0:=⟨st3.alloc _,Blk.new w3 _ _,hw3⟩;go_wp2_with fail;generalize w3.heap.size=gc at *;refine (bG _ base g (b+1+1+1) 8 st4.t0.src (by have:=HB.o;omega) (by omega) (by omega)).mono ?_;rintro e w5 ⟨k,rfl,k0,k1,hs,hg⟩;have st5:=st4.step hs hg;clear hs hg st4 st3;go_upto_block 0 with fail;go_cut [] (fun wx=>∃ (fd op nu:Int) (tx:ByteArray) (ot b' :Int),T1 w wx base g b' gc fd op nu tx ot∧(-13≤nu∧nu≤4294967295)∧tx.size≤5∧b' ≤b+15);case first=>
  have hcs:k=0∨k=1∨(k=2∧l=3)∨(2 < k∧k < 5∧l=3)∨(1 < k∧k < 5∧l=2)∨(1 < k∧k < 6∧l=5)∨(1 < k∧¬ (k < 5∧l=3)∧¬ (k < 5∧l=2)∧¬ (k < 6∧l=5)):=by omega
  rcases hcs with rfl | rfl | ⟨rfl,rfl⟩ | ⟨c1,c2,rfl⟩ | ⟨c1,c2,rfl⟩ | ⟨c1,c2,rfl⟩ | ⟨c1,c2,c3,c4⟩
  · go_wp2_with fail;refine (aA _ base g (b+1+1+1+1) 13 14 st5.t0.src (by have:=HB.o;omega) (by omega) (by omega) (by omega)).mono ?_;rintro e w6 ⟨v6,rfl,v6a,v6b,hs,hg⟩;have st6:=st5.step hs hg;clear hs hg st5;go_wp2_with fail;refine (aA _ base g (b+1+1+1+1+1) 1 2 st6.t0.src (by have:=HB.o;omega) (by omega) (by omega) (by omega)).mono ?_;rintro e w7 ⟨v7,rfl,v7a,v7b,hs,hg⟩;have st7:=st6.step hs hg;clear hs hg st6;go_wp2_with fail;refine (fJ _ base g w7.heap.size (b+1+1+1+1+1+1) 5 5 _ 9 (0,0) (st7.t0.src.alloc _) (by have:=HB.o;omega) (heap_alloc_new w7 _) (by have:=st7.lt;omega) rfl (by omega) (by omega) rfl).mono ?_;rintro e w8 ⟨v8,rfl,v8m,hs,hg⟩;have st8:=(st7.alloc (.cells #[.string ⟨#[47,97]⟩, .string ⟨#[47,105,110,105,116]⟩, .string ⟨#[97]⟩, .string ⟨#[105,110,105,116]⟩, .string ⟨#[120,32,121]⟩] 9)).step hs hg;clear hs hg st7;obtain ⟨q0,f0,q1,f1,q2,f2,q3,f3,q4,f4⟩:=st8.qs;have stB:=((((st8.set0 v6).set1 v7).set2 0).Jn v8).Jo 0;go_wp2_with fail;go_meet;exact ⟨_,_,_,_,_,_,stB,by omega,by omega,by omega⟩
  · go_wp2_with fail;refine (aA _ base g (b+1+1+1+1) 3 7 st5.t0.src (by have:=HB.o;omega) (by omega) (by omega) (by omega)).mono ?_;rintro e w9 ⟨v9,rfl,v9a,v9b,hs,hg⟩;have st9:=st5.step hs hg;clear hs hg st5;go_wp2_with fail;refine (aA _ base g (b+1+1+1+1+1) 1 2 st9.t0.src (by have:=HB.o;omega) (by omega) (by omega) (by omega)).mono ?_;rintro e w10 ⟨v10,rfl,Sc,Sd,hs,hg⟩;have mK:=st9.step hs hg;clear hs hg st9;go_wp2_with fail;refine (aA _ base g (b+1+1+1+1+1+1) 3 7 mK.t0.src (by have:=HB.o;omega) (by omega) (by omega) (by omega)).mono ?_;rintro e w11 ⟨v11,rfl,Sg,Si,hs,hg⟩;have jK:=mK.step hs hg;clear hs hg mK;obtain ⟨q0,f0,q1,f1,q2,f2,q3,f3,q4,f4⟩:=jK.qs;have stB:=((((jK.set0 v9).set1 v10).set2 0).Jn ⟨#[]⟩).Jo v11;go_wp2_with fail;go_meet;exact ⟨_,_,_,_,_,_,stB,by omega,by decide,by omega⟩
  · go_wp2_with fail;refine (aA _ base g (b+1+1+1+1) 19 20 st5.t0.src (by have:=HB.o;omega) (by omega) (by omega) (by omega)).mono ?_;rintro e w12 ⟨v12,rfl,Uh,Ui,hs,hg⟩;have Fv:=st5.step hs hg;clear hs hg st5;go_wp2_with fail;refine (aA _ base g (b+1+1+1+1+1) 1 2 Fv.t0.src (by have:=HB.o;omega) (by omega) (by omega) (by omega)).mono ?_;rintro e w13 ⟨v13,rfl,Uj,Uk,hs,hg⟩;have Dh:=Fv.step hs hg;clear hs hg Fv;go_wp2_with fail;refine (aF _ base g w13.heap.size (b+1+1+1+1+1+1) 5 (3) 20 _ 3 (0,0) (Dh.t0.src.alloc _) (by have:=HB.o;omega) (heap_alloc_new w13 _) (by have:=Dh.lt;omega) rfl (by omega) (by omega) rfl).mono ?_;rintro e w14 ⟨v14,rfl,Ul,Um,hs,hg⟩;have yG:=(Dh.alloc (.cells #[.int .i64 3, .int .i64 4, .int .i64 5, .int .i64 19, .int .i64 20] 3)).step hs hg;clear hs hg Dh;obtain ⟨q0,f0,q1,f1,q2,f2,q3,f3,q4,f4⟩:=yG.qs;have stB:=((((yG.set0 v12).set1 v13).set2 0).Jn ⟨#[]⟩).Jo v14;go_wp2_with fail;go_meet;exact ⟨_,_,_,_,_,_,stB,by omega,by decide,by omega⟩
  · have n0:(k == 0)=false:=(by simp;omega);have n1:(k == 1)=false:=(by simp;omega);have n2:(k == 2)=false:=(by simp;omega);go_wp2_with fail;refine (aA _ base g (b+1+1+1+1) 15 21 st5.t0.src (by have:=HB.o;omega) (by omega) (by omega) (by omega)).mono ?_;rintro e w15 ⟨v15,rfl,Un,Uo,hs,hg⟩;have M3:=st5.step hs hg;clear hs hg st5;go_wp2_with fail;refine (aF _ base g w15.heap.size (b+1+1+1+1+1) 8 (-13) 5 _ 3 (0,0) (M3.t0.src.alloc _) (by have:=HB.o;omega) (heap_alloc_new w15 _) (by have:=M3.lt;omega) rfl (by omega) (by omega) rfl).mono ?_;rintro e w16 ⟨v16,rfl,Uq,Ur,hs,hg⟩;have Qy:=(M3.alloc (.cells #[.int .i64 0, .int .i64 0, .int .i64 1, .int .i64 1, .int .i64 2, .int .i64 5, .int .i64 (-2), .int .i64 (-13)] 3)).step hs hg;clear hs hg M3;obtain ⟨q0,f0,q1,f1,q2,f2,q3,f3,q4,f4⟩:=Qy.qs;have stB:=(Qy.set0 v15).set2 v16;go_wp2_with fail;go_meet;exact ⟨_,_,_,_,_,_,stB,by omega,by decide,by omega⟩
  · rcases (show k=2∨2 < k by omega) with e1 | e1
    · subst e1;go_wp2_with fail;refine (aA _ base g (b+1+1+1+1) 9 12 st5.t0.src (by have:=HB.o;omega) (by omega) (by omega) (by omega)).mono ?_;rintro e w17 ⟨v17,rfl,Us,Ut,hs,hg⟩;have Qz:=st5.step hs hg;clear hs hg st5;obtain ⟨q0,f0,q1,f1,q2,f2,q3,f3,q4,f4⟩:=Qz.qs;have stB:=Qz.set0 v17;go_wp2_with fail;go_meet;exact ⟨_,_,_,_,_,_,stB,by omega,by decide,by omega⟩
    · have n0:(k == 0)=false:=(by simp;omega);have n1:(k == 1)=false:=(by simp;omega);have n2:(k == 2)=false:=(by simp;omega);go_wp2_with fail;refine (aA _ base g (b+1+1+1+1) 9 12 st5.t0.src (by have:=HB.o;omega) (by omega) (by omega) (by omega)).mono ?_;rintro e w18 ⟨v18,rfl,Uu,Uv,hs,hg⟩;have QC:=st5.step hs hg;clear hs hg st5;obtain ⟨q0,f0,q1,f1,q2,f2,q3,f3,q4,f4⟩:=QC.qs;have stB:=QC.set0 v18;go_wp2_with fail;go_meet;exact ⟨_,_,_,_,_,_,stB,by omega,by decide,by omega⟩
  · rcases (show k=2∨(2 < k∧k < 5)∨k=5 by omega) with e1 | e1 | e1
    · subst e1;go_wp2_with fail;refine (aA _ base g (b+1+1+1+1) 1 6 st5.t0.src (by have:=HB.o;omega) (by omega) (by omega) (by omega)).mono ?_;rintro e w19 ⟨v19,rfl,Uw,Ux,hs,hg⟩;have M4:=st5.step hs hg;clear hs hg st5;go_wp2_with fail;refine (aF _ base g w19.heap.size (b+1+1+1+1+1) 7 (1005) 1320 _ 3 (0,0) (M4.t0.src.alloc _) (by have:=HB.o;omega) (heap_alloc_new w19 _) (by have:=M4.lt;omega) rfl (by omega) (by omega) rfl).mono ?_;rintro e w20 ⟨v20,rfl,Uy,Uz,hs,hg⟩;have QD:=(M4.alloc (.cells #[.int .i64 1300, .int .i64 1302, .int .i64 1307, .int .i64 1309, .int .i64 1005, .int .i64 1320, .int .i64 1306] 3)).step hs hg;clear hs hg M4;obtain ⟨q0,f0,q1,f1,q2,f2,q3,f3,q4,f4⟩:=QD.qs;have stB:=((((QD.set0 22).set1 v19).set2 v20).Jn ⟨#[]⟩).Jo 0;go_wp2_with fail;go_meet;exact ⟨_,_,_,_,_,_,stB,by omega,by decide,by omega⟩
    · obtain ⟨e1,e2⟩:=e1;have n0:(k == 0)=false:=(by simp;omega);have n1:(k == 1)=false:=(by simp;omega);have n2:(k == 2)=false:=(by simp;omega);go_wp2_with fail;refine (aA _ base g (b+1+1+1+1) 1 6 st5.t0.src (by have:=HB.o;omega) (by omega) (by omega) (by omega)).mono ?_;rintro e w21 ⟨v21,rfl,UA,UB,hs,hg⟩;have M5:=st5.step hs hg;clear hs hg st5;go_wp2_with fail;refine (aF _ base g w21.heap.size (b+1+1+1+1+1) 7 (1005) 1320 _ 3 (0,0) (M5.t0.src.alloc _) (by have:=HB.o;omega) (heap_alloc_new w21 _) (by have:=M5.lt;omega) rfl (by omega) (by omega) rfl).mono ?_;rintro e w22 ⟨v22,rfl,UC,UD,hs,hg⟩;have QE:=(M5.alloc (.cells #[.int .i64 1300, .int .i64 1302, .int .i64 1307, .int .i64 1309, .int .i64 1005, .int .i64 1320, .int .i64 1306] 3)).step hs hg;clear hs hg M5;obtain ⟨q0,f0,q1,f1,q2,f2,q3,f3,q4,f4⟩:=QE.qs;have stB:=((((QE.set0 22).set1 v21).set2 v22).Jn ⟨#[]⟩).Jo 0;go_wp2_with fail;go_meet;exact ⟨_,_,_,_,_,_,stB,by omega,by decide,by omega⟩
    · subst e1;go_wp2_with fail;refine (aA _ base g (b+1+1+1+1) 1 6 st5.t0.src (by have:=HB.o;omega) (by omega) (by omega) (by omega)).mono ?_;rintro e w23 ⟨v23,rfl,UE,UF,hs,hg⟩;have M6:=st5.step hs hg;clear hs hg st5;go_wp2_with fail;refine (aF _ base g w23.heap.size (b+1+1+1+1+1) 7 (1005) 1320 _ 3 (0,0) (M6.t0.src.alloc _) (by have:=HB.o;omega) (heap_alloc_new w23 _) (by have:=M6.lt;omega) rfl (by omega) (by omega) rfl).mono ?_;rintro e w24 ⟨v24,rfl,UG,UH,hs,hg⟩;have QF:=(M6.alloc (.cells #[.int .i64 1300, .int .i64 1302, .int .i64 1307, .int .i64 1309, .int .i64 1005, .int .i64 1320, .int .i64 1306] 3)).step hs hg;clear hs hg M6;obtain ⟨q0,f0,q1,f1,q2,f2,q3,f3,q4,f4⟩:=QF.qs;have stB:=((((QF.set0 22).set1 v23).set2 v24).Jn ⟨#[]⟩).Jo 0;go_wp2_with fail;go_meet;exact ⟨_,_,_,_,_,_,stB,by omega,by decide,by omega⟩
  · rcases (show k=2∨(2 < k∧k < 5)∨k=5∨5 < k by omega) with e1 | e1 | e1 | e1
    · subst e1;have l3:(l == 3)=false:=(by simp;omega);have l2:(l == 2)=false:=(by simp;omega);have l5:(l == 5)=false:=(by simp;omega);go_wp2_with fail;go_meet;exact ⟨_,_,_,_,_,_,st5,by omega,by decide,by omega⟩
    · obtain ⟨e1,e2⟩:=e1;have n0:(k == 0)=false:=(by simp;omega);have n1:(k == 1)=false:=(by simp;omega);have n2:(k == 2)=false:=(by simp;omega);have l3:(l == 3)=false:=(by simp;omega);have l2:(l == 2)=false:=(by simp;omega);have l5:(l == 5)=false:=(by simp;omega);go_wp2_with fail;go_meet;exact ⟨_,_,_,_,_,_,st5,by omega,by decide,by omega⟩
    · subst e1;have l5:(l == 5)=false:=(by simp;omega);go_wp2_with fail;go_meet;exact ⟨_,_,_,_,_,_,st5,by omega,by decide,by omega⟩
    · have n0:(k == 0)=false:=(by simp;omega);have n1:(k == 1)=false:=(by simp;omega);have n2:(k == 2)=false:=(by simp;omega);go_wp2_with fail;go_meet;exact ⟨_,_,_,_,_,_,st5,by omega,by decide,by omega⟩
 case rest=>
 obtain ⟨fd,op,nu,tx,ot,b',st6,hnu,htx,hb'⟩:=hcut;clear st5;go_wp2_with fail;refine (bG _ base g b' 24 st6.t0.src (by have:=HB.o;omega) (by omega) (by omega)).mono ?_;rintro e w9 ⟨v9,rfl,v9a,v9b,hs,hg⟩;have st9:=st6.step hs hg;clear hs hg st6;go_upto_if 92 with fail;go_cut [] (fun wx=>∃ (fd' op' b2:Int),T1 w wx base g b2 gc fd' op' nu tx ot∧b2≤b+19);case first=>
  by_cases h23:v9=23;case pos=>
    have b23:(v9 == 23)=true:=(by simpa using h23);go_wp2_with fail;refine (aA _ base g (b' +1) 0 24 st9.t0.src (by have:=HB.o;omega) (by omega) (by omega) (by omega)).mono ?_;rintro e w10 ⟨v10,rfl,Sc,Sd,hs,hg⟩;have mK:=st9.step hs hg;clear hs hg st9;go_wp2_with fail;refine (aA _ base g (b' +1+1) 0 9 mK.t0.src (by have:=HB.o;omega) (by omega) (by omega) (by omega)).mono ?_;rintro e w11 ⟨v11,rfl,Sg,Si,hs,hg⟩;have jK:=mK.step hs hg;clear hs hg mK;obtain ⟨q0,f0,q1,f1,q2,f2,q3,f3,q4,f4⟩:=jK.qs;go_wp2_with fail;go_meet;exact ⟨_,_,_,(jK.set0 v10).set1 v11,by omega⟩
  case neg=>
    have b23:(v9 == 23)=false:=(by simpa using h23);go_wp2_with fail;go_meet;exact ⟨_,_,_,st9,by omega⟩
 case rest=>
 obtain ⟨fd',op',b2,stE,hb2⟩:=hcut;obtain ⟨q0,f0,q1,f1,q2,f2,q3,f3,q4,f4⟩:=stE.qs;obtain ⟨r0,s0,r1,s1,r2,s2,r3,s3,r4,s4⟩:=stE.t0.rs;go_wp2_with fail;refine bodyPost_ret (De Tryz.func75 rfl _ _ w.heap.size _ rfl (((((stE.t0.rb.put 0 _).put 1 _).put 2 _).put 3 _).put 4 _) rfl) rfl ?_;exact Df stE ⟨hnu,by omega⟩ htx
def xW (g:Nat) (w w' :World):Prop:=w.grownBy w' (some g)
theorem xW.of {g:Nat} {w w' :World} (h:Below w.heap.size w w'):xW g w w' :=⟨h.os,h.tape,h.output,h.size,fun i hi _=>h.block i hi⟩
theorem xW.then {g:Nat} {a w w' :World} (h:xW g a w) (k:Below w.heap.size w w'):xW g a w' :=h.trans (xW.of k)
section
variable {w0 w w' :World} {g:Nat}
end
section
variable {w:World} {g k:Nat} {v:Value} {b:Bool}
end
section
variable {w w' :World} {g n c k:Nat} {A:Option Addr} {ws:List ByteArray} {b:Bool}
end
abbrev noT:Value:= .slice none 0 0
theorem qa {fn:Func} (h:fn.results=#[.cell 2 90]) (tmps:Array Value) (w:World) (g:Nat) (r:Rul) (v:Value) (hp:tmps.getD 2 undef= .pointer (some ⟨g,0,none⟩)) (hg:dF w g r v):
  (results fn tmps).run Tryz.prog w= .ok (oF r v) w:=
 results_cell_row h tmps w g _ (bK r v) (0,0) _ hp hg Tryz.underlying90 rfl (iN r v)
section
variable {w wr w' :World} {g n c k k' :Nat} {A:Option Addr} {ws:List ByteArray} {b b' :Bool} {r r' :Rul}
end
attribute [local irreducible] nX JS
end Go.Proofs.YtollifnnpihfdaaGreatDoor
