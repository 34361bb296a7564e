import Derived.Test.YtollifnnpihfdaaGreatDoorX22
import Derived.Test.YtollifnnpihfdaaGreatDoorX30
import Derived.Test.YtollifnnpihfdaaGreatDoorX28
set_option maxRecDepth 100000
set_option maxHeartbeats 64000000
set_option linter.all false
namespace Go.Proofs.YtollifnnpihfdaaGreatDoor
open Go.RowKit
theorem Ci (a b:Int) (ps:List Pm) (A:Option Addr) (n c:Nat) (hn:n=ps.length) (hl:n≤16) (hk:∀ x∈ps,x.Ok) (pid:Int) (d i:Int) (w:World) (h:jH w w.heap.size A ps):
   Calls Tryz.prog 207 #[.agg (tbC a b (.slice A n c)), .int .i64 pid, .agg #[.int .i64 d, .int .i64 i]] w (TbP w):=by
 have HN:=Hd hn;have HL:=Hd hl;have HK:=Hd hk;have B0:=Hd (show Below w.heap.size w (((w.alloc (.cells (tbC a b (.slice A n c)) 34)).alloc (.cells #[.int .i64 d, .int .i64 i] 44)).alloc (.cells (tbC 0 0 (.slice none 0 0)) 34)) from (((Below.refl w.heap.size w).alloc (Nat.le_refl _) _).alloc (by simp) _).alloc (by simp;omega) _);have V0:=Hd (((Blk.new w (tbC a b (.slice A n c)) 34).alloc (.cells #[.int .i64 d, .int .i64 i] 44)).alloc (.cells (tbC 0 0 (.slice none 0 0)) 34));have U0:=Hd (show Blk (((w.alloc (.cells (tbC a b (.slice A n c)) 34)).alloc (.cells #[.int .i64 d, .int .i64 i] 44)).alloc (.cells (tbC 0 0 (.slice none 0 0)) 34)) (w.heap.size+1) 44 #[.int .i64 d, .int .i64 i] by
   have h:=((Blk.new (w.alloc (.cells (tbC a b (.slice A n c)) 34)) #[.int .i64 d, .int .i64 i] 44).alloc (.cells (tbC 0 0 (.slice none 0 0)) 34));simpa using h)
 have R0:=Hd (show Blk (((w.alloc (.cells (tbC a b (.slice A n c)) 34)).alloc (.cells #[.int .i64 d, .int .i64 i] 44)).alloc (.cells (tbC 0 0 (.slice none 0 0)) 34)) (w.heap.size+1+1) 34 (tbC 0 0 (.slice none 0 0)) by
   have h:=Blk.new ((w.alloc (.cells (tbC a b (.slice A n c)) 34)).alloc (.cells #[.int .i64 d, .int .i64 i] 44)) (tbC 0 0 (.slice none 0 0)) 34;simpa using h)
 have D0:=Hd (h.keep B0.o (Nat.le_refl _));clear h hn hl hk;go_in;go_upto_region 1 with fail;generalize (((w.alloc (.cells (tbC a b (.slice A n c)) 34)).alloc (.cells #[.int .i64 d, .int .i64 i] 44)).alloc (.cells (tbC 0 0 (.slice none 0 0)) 34))=w0 at *;go_wp2_with ((with_reducible refine ay ?_ 34 (.tmp 3) ?_ V0.o ?_ _ Tryz.underlying34 ?_ ?_ ?_);(iterate 4 rfl);exact aK _ _ _);refine (jP a b pid ps A n c HN.o w0 (D0.o.more B0.o.size)).mono ?_;rintro e w1 ⟨hb1,rfl | ⟨y,hy,A2,c2,rfl,ho⟩⟩
 · have hba:=(Below.refl w1.heap.size w1).alloc (Nat.le_refl _) (.cells (psC zPc (.slice none 0 0)) 47);have R1:=Hd ((R0.o.below hb1).below hba);have B1:=Hd (aa (aa B0.o hb1) hba);clear hba hb1 V0 R0 B0 D0;go_wp2_with ((with_reducible refine ae ?_ 34 (.tmp 6) (.tmp 18) ?_ R1.o (tbC 0 0 (.slice none 0 0)) ?_ ?_ ?_ ?_ ?_ ?_);(iterate 4 rfl);(exact aK _ _ _);rfl;(exact aP _ _ _ _ _));refine bodyPost_ret (aS (fn:=Tryz.f207) rfl _ _ (w.heap.size+1+1) 0 0 (.slice none 0 0) rfl (Blk.row R1.o _)) rfl ?_;exact dw R1.o B1.o (by omega) (by decide)
 · have hba:=(Below.refl w1.heap.size w1).alloc (Nat.le_refl _) (.cells (psC y.p (.slice A2 y.ds.length c2)) 47);have hbb:=aa hb1 hba;have hr1:=(R0.o.below hb1).lt;have F1:=Hd (show GtF w (w1.alloc (.cells (psC y.p (.slice A2 y.ds.length c2)) 47)) (w.heap.size+1+1) w1.heap.size a b A n c ps ⟨y.p,y.ds,A2,c2⟩ from ⟨V0.o.below hbb,R0.o.below hbb,Blk.new w1 _ _,(ho.low B0.o.size).below hba,D0.o.keep hbb B0.o.size,aa B0.o hbb,⟨by omega,hr1⟩,HK.o y hy⟩);have U0x:=Hd (U0.o.below hbb);clear hba hbb hb1 V0 R0 B0 D0 ho hr1 U0;go_upto_region 2 with fail;generalize w1.alloc (.cells (psC y.p (.slice A2 y.ds.length c2)) 47)=w2 at *;generalize w1.heap.size=gp at *;have HK2:=Hd F1.o.k.2;have c8:=F1.o.X.cell 8;have c9:=F1.o.X.cell 9;have f8:=F1.o.X.free 8;have f9:=F1.o.X.free 9;have u0:=U0x.o.cell 0;have u1:=U0x.o.cell 1;have F3:=Hd ((F1.o.set (i:=8) (v:= .int .i64 d) (p' := { y.p with cd:=d }) rfl HK2.o).set (i:=9) (v:= .int .i64 i) (p' := { { y.p with cd:=d } with ci:=i }) rfl HK2.o);go_upto_region 5 with fail;clear u0 u1 F1;clear c8 f8 c9 f9;generalize (w2.setCell ⟨gp,8,none⟩ (.int .i64 d)).setCell ⟨gp,9,none⟩ (.int .i64 i)=w3 at *;generalize ({ { y.p with cd:=d } with ci:=i } :Pc)=p3 at *;have FH:=Hd F3.o.h;go_wp2_with (first | ((with_reducible refine ay ?_ 34 (.tmp 3) ?_ F3.o.V ?_ _ Tryz.underlying34 ?_ ?_ ?_);(iterate 4 rfl);exact aK _ _ _) | ((with_reducible refine ay ?_ 47 (.tmp 8) ?_ F3.o.X ?_ _ Tryz.underlying47 ?_ ?_ ?_);(iterate 4 rfl);exact gQ _ _));refine (BV a b ps A n c HN.o HL.o HK.o ⟨p3,y.ds,A2,c2⟩ F3.o.k w.heap.size w3 (F3.o.D.more F3.o.B.size) F3.o.P F3.o.B.size).mono ?_;rintro e w5 ⟨A5,n5,c5,zs,rfl,hO,hb5,_⟩;have R5:=Hd (F3.o.R.below hb5);have B5:=Hd (aa F3.o.B hb5);have O5:=Hd hO;clear hO hb5 F3;go_wp2_with ((with_reducible refine ae ?_ 34 (.tmp 6) (.tmp 23) ?_ R5.o (tbC a b (.slice A5 n5 c5)) ?_ ?_ ?_ ?_ ?_ ?_);(iterate 4 rfl);(exact aK _ _ _);rfl;(exact aP _ _ _ _ _));refine bodyPost_ret (aS (fn:=Tryz.f207) rfl _ _ (w.heap.size+1+1) a b (.slice A5 n5 c5) rfl (Blk.row R5.o _)) rfl ?_;exact jJ O5.o R5.o B5.o (by omega)
theorem FP (a b:Int) (ps:List Pm) (A:Option Addr) (n c:Nat) (hn:n=ps.length) (hl:n≤16) (hk:∀ x∈ps,x.Ok) (pid:Int) (exe com:ByteArray) (hxs:exe.size≤640) (hcs:com.size≤640) (w:World) (h:jH w w.heap.size A ps):
   Calls Tryz.prog 206 #[.agg (tbC a b (.slice A n c)), .int .i64 pid, .string exe, .string com] w (TbP w):=by
 have HN:=Hd hn;have HL:=Hd hl;have HK:=Hd hk;have HXS:=Hd hxs;have HCS:=Hd hcs;have B0:=Hd (show Below w.heap.size w ((w.alloc (.cells (tbC a b (.slice A n c)) 34)).alloc (.cells (tbC 0 0 (.slice none 0 0)) 34)) from ((Below.refl w.heap.size w).alloc (Nat.le_refl _) _).alloc (by simp) _);have V0:=Hd ((Blk.new w (tbC a b (.slice A n c)) 34).alloc (.cells (tbC 0 0 (.slice none 0 0)) 34));have R0:=Hd (show Blk ((w.alloc (.cells (tbC a b (.slice A n c)) 34)).alloc (.cells (tbC 0 0 (.slice none 0 0)) 34)) (w.heap.size+1) 34 (tbC 0 0 (.slice none 0 0)) by
   have h:=Blk.new (w.alloc (.cells (tbC a b (.slice A n c)) 34)) (tbC 0 0 (.slice none 0 0)) 34;simpa using h)
 have D0:=Hd (h.keep B0.o (Nat.le_refl _));clear h hn hl hk;go_in;go_upto_region 1 with fail;generalize ((w.alloc (.cells (tbC a b (.slice A n c)) 34)).alloc (.cells (tbC 0 0 (.slice none 0 0)) 34))=w0 at *;go_wp2_with ((with_reducible refine ay ?_ 34 (.tmp 4) ?_ V0.o ?_ _ Tryz.underlying34 ?_ ?_ ?_);(iterate 4 rfl);exact aK _ _ _);refine (jP a b pid ps A n c HN.o w0 (D0.o.more B0.o.size)).mono ?_;rintro e w1 ⟨hb1,rfl | ⟨y,hy,A2,c2,rfl,ho⟩⟩
 · have hba:=(Below.refl w1.heap.size w1).alloc (Nat.le_refl _) (.cells (psC zPc (.slice none 0 0)) 47);have R1:=Hd ((R0.o.below hb1).below hba);have B1:=Hd (aa (aa B0.o hb1) hba);clear hba hb1 V0 R0 B0 D0;go_wp2_with ((with_reducible refine ae ?_ 34 (.tmp 8) (.tmp 20) ?_ R1.o (tbC 0 0 (.slice none 0 0)) ?_ ?_ ?_ ?_ ?_ ?_);(iterate 4 rfl);(exact aK _ _ _);rfl;(exact aP _ _ _ _ _));refine bodyPost_ret (aS (fn:=Tryz.f206) rfl _ _ (w.heap.size+1) 0 0 (.slice none 0 0) rfl (Blk.row R1.o _)) rfl ?_;exact dw R1.o B1.o (by omega) (by decide)
 · have hba:=(Below.refl w1.heap.size w1).alloc (Nat.le_refl _) (.cells (psC y.p (.slice A2 y.ds.length c2)) 47);have hbb:=aa hb1 hba;have hr1:=(R0.o.below hb1).lt;have F1:=Hd (show GtF w (w1.alloc (.cells (psC y.p (.slice A2 y.ds.length c2)) 47)) (w.heap.size+1) w1.heap.size a b A n c ps ⟨y.p,y.ds,A2,c2⟩ from ⟨V0.o.below hbb,R0.o.below hbb,Blk.new w1 _ _,(ho.low B0.o.size).below hba,D0.o.keep hbb B0.o.size,aa B0.o hbb,⟨by omega,hr1⟩,HK.o y hy⟩);clear hba hbb hb1 V0 R0 B0 D0 ho hr1;go_upto_region 2 with fail;generalize w1.alloc (.cells (psC y.p (.slice A2 y.ds.length c2)) 47)=w2 at *;generalize w1.heap.size=gp at *;have HK2:=Hd F1.o.k.2;have c10:=F1.o.X.cell 10;have c11:=F1.o.X.cell 11;have f10:=F1.o.X.free 10;have f11:=F1.o.X.free 11;have F3:=Hd ((F1.o.set (i:=11) (v:= .string exe) (p' := { y.p with ex:=exe }) rfl ⟨HK2.o.1,HXS.o⟩).set (i:=10) (v:= .string com) (p' := { { y.p with ex:=exe } with co:=com }) rfl ⟨HCS.o,HXS.o⟩);go_upto_region 5 with fail;clear F1;clear c10 f10 c11 f11;generalize (w2.setCell ⟨gp,11,none⟩ (.string exe)).setCell ⟨gp,10,none⟩ (.string com)=w3 at *;generalize ({ { y.p with ex:=exe } with co:=com } :Pc)=p3 at *;have FH:=Hd F3.o.h;go_wp2_with (first | ((with_reducible refine ay ?_ 34 (.tmp 4) ?_ F3.o.V ?_ _ Tryz.underlying34 ?_ ?_ ?_);(iterate 4 rfl);exact aK _ _ _) | ((with_reducible refine ay ?_ 47 (.tmp 10) ?_ F3.o.X ?_ _ Tryz.underlying47 ?_ ?_ ?_);(iterate 4 rfl);exact gQ _ _));refine (BV a b ps A n c HN.o HL.o HK.o ⟨p3,y.ds,A2,c2⟩ F3.o.k w.heap.size w3 (F3.o.D.more F3.o.B.size) F3.o.P F3.o.B.size).mono ?_;rintro e w5 ⟨A5,n5,c5,zs,rfl,hO,hb5,_⟩;have R5:=Hd (F3.o.R.below hb5);have B5:=Hd (aa F3.o.B hb5);have O5:=Hd hO;clear hO hb5 F3;go_wp2_with ((with_reducible refine ae ?_ 34 (.tmp 8) (.tmp 27) ?_ R5.o (tbC a b (.slice A5 n5 c5)) ?_ ?_ ?_ ?_ ?_ ?_);(iterate 4 rfl);(exact aK _ _ _);rfl;(exact aP _ _ _ _ _));refine bodyPost_ret (aS (fn:=Tryz.f206) rfl _ _ (w.heap.size+1) a b (.slice A5 n5 c5) rfl (Blk.row R5.o _)) rfl ?_;exact jJ O5.o R5.o B5.o (by omega)
theorem yC (a b:Int) (ps:List Pm) (A:Option Addr) (n c:Nat) (hn:n=ps.length) (hl:n≤16) (hk:∀ x∈ps,x.Ok) (pid:Int) (u:Int) (w:World) (h:jH w w.heap.size A ps):
   Calls Tryz.prog 210 #[.agg (tbC a b (.slice A n c)), .int .i64 pid, .int .i64 u] w (TbP w):=by
 have HN:=Hd hn;have HL:=Hd hl;have HK:=Hd hk;have B0:=Hd (show Below w.heap.size w ((w.alloc (.cells (tbC a b (.slice A n c)) 34)).alloc (.cells (tbC 0 0 (.slice none 0 0)) 34)) from ((Below.refl w.heap.size w).alloc (Nat.le_refl _) _).alloc (by simp) _);have V0:=Hd ((Blk.new w (tbC a b (.slice A n c)) 34).alloc (.cells (tbC 0 0 (.slice none 0 0)) 34));have R0:=Hd (show Blk ((w.alloc (.cells (tbC a b (.slice A n c)) 34)).alloc (.cells (tbC 0 0 (.slice none 0 0)) 34)) (w.heap.size+1) 34 (tbC 0 0 (.slice none 0 0)) by
   have h:=Blk.new (w.alloc (.cells (tbC a b (.slice A n c)) 34)) (tbC 0 0 (.slice none 0 0)) 34;simpa using h)
 have D0:=Hd (h.keep B0.o (Nat.le_refl _));clear h hn hl hk;go_in;go_upto_region 1 with fail;generalize ((w.alloc (.cells (tbC a b (.slice A n c)) 34)).alloc (.cells (tbC 0 0 (.slice none 0 0)) 34))=w0 at *;go_wp2_with ((with_reducible refine ay ?_ 34 (.tmp 3) ?_ V0.o ?_ _ Tryz.underlying34 ?_ ?_ ?_);(iterate 4 rfl);exact aK _ _ _);refine (jP a b pid ps A n c HN.o w0 (D0.o.more B0.o.size)).mono ?_;rintro e w1 ⟨hb1,rfl | ⟨y,hy,A2,c2,rfl,ho⟩⟩
 · have hba:=(Below.refl w1.heap.size w1).alloc (Nat.le_refl _) (.cells (psC zPc (.slice none 0 0)) 47);have R1:=Hd ((R0.o.below hb1).below hba);have B1:=Hd (aa (aa B0.o hb1) hba);clear hba hb1 V0 R0 B0 D0;go_wp2_with ((with_reducible refine ae ?_ 34 (.tmp 6) (.tmp 19) ?_ R1.o (tbC 0 0 (.slice none 0 0)) ?_ ?_ ?_ ?_ ?_ ?_);(iterate 4 rfl);(exact aK _ _ _);rfl;(exact aP _ _ _ _ _));refine bodyPost_ret (aS (fn:=Tryz.f210) rfl _ _ (w.heap.size+1) 0 0 (.slice none 0 0) rfl (Blk.row R1.o _)) rfl ?_;exact dw R1.o B1.o (by omega) (by decide)
 · have hba:=(Below.refl w1.heap.size w1).alloc (Nat.le_refl _) (.cells (psC y.p (.slice A2 y.ds.length c2)) 47);have hbb:=aa hb1 hba;have hr1:=(R0.o.below hb1).lt;have F1:=Hd (show GtF w (w1.alloc (.cells (psC y.p (.slice A2 y.ds.length c2)) 47)) (w.heap.size+1) w1.heap.size a b A n c ps ⟨y.p,y.ds,A2,c2⟩ from ⟨V0.o.below hbb,R0.o.below hbb,Blk.new w1 _ _,(ho.low B0.o.size).below hba,D0.o.keep hbb B0.o.size,aa B0.o hbb,⟨by omega,hr1⟩,HK.o y hy⟩);clear hba hbb hb1 V0 R0 B0 D0 ho hr1;go_upto_region 2 with fail;generalize w1.alloc (.cells (psC y.p (.slice A2 y.ds.length c2)) 47)=w2 at *;generalize w1.heap.size=gp at *;have HK2:=Hd F1.o.k.2;have hgr:=F1.o.h;go_wp2_with fail;refine (uS u w2).mono ?_;rintro e w3 ⟨rfl,rfl⟩;cases hid:(decide (0≤u) && decide (u < 4294967295));case false=>
    clear hid;go_wp2_with ((with_reducible refine ae ?_ 34 (.tmp 6) (.tmp 23) ?_ F1.o.R (tbC 0 0 (.slice none 0 0)) ?_ ?_ ?_ ?_ ?_ ?_);(iterate 4 rfl);(exact aK _ _ _);rfl;(exact aP _ _ _ _ _));refine bodyPost_ret (aS (fn:=Tryz.f210) rfl _ _ (w.heap.size+1) 0 0 (.slice none 0 0) rfl (Blk.row F1.o.R _)) rfl ?_;exact dw F1.o.R F1.o.B (by omega) (by decide)
   clear hid;have c2:=F1.o.X.cell 2;have c3:=F1.o.X.cell 3;have f2:=F1.o.X.free 2;have f3:=F1.o.X.free 3;go_wp2_with fail;refine (uT (y.p.eu == 0) y.p.ui y.p.eu u w2).mono ?_;rintro e w3 ⟨rfl,rfl⟩;have F3:=Hd ((F1.o.set (i:=2) (v:= .int .i64 (ll (y.p.eu == 0) y.p.ui y.p.eu u).1) (p' := { y.p with ui:=(ll (y.p.eu == 0) y.p.ui y.p.eu u).1 }) rfl HK2.o).set (i:=3) (v:= .int .i64 (ll (y.p.eu == 0) y.p.ui y.p.eu u).2.1) (p' := { { y.p with ui:=(ll (y.p.eu == 0) y.p.ui y.p.eu u).1 } with eu:=(ll (y.p.eu == 0) y.p.ui y.p.eu u).2.1 }) rfl HK2.o);generalize ll (y.p.eu == 0) y.p.ui y.p.eu u=cg at *;go_upto_region 8 with fail;clear F1;clear c2 f2 c3 f3;generalize (w2.setCell ⟨gp,2,none⟩ (.int .i64 cg.1)).setCell ⟨gp,3,none⟩ (.int .i64 cg.2.1)=w3 at *;generalize ({ { y.p with ui:=cg.1 } with eu:=cg.2.1 } :Pc)=p3 at *;by_cases hcg:cg.2.2=0;case neg=>
    have HCG:=Hd hcg;obtain ⟨p1,p2⟩:=aN hcg;clear hcg;go_wp2_with ((with_reducible refine ae ?_ 34 (.tmp 6) (.tmp 41) ?_ F3.o.R (tbC 0 0 (.slice none 0 0)) ?_ ?_ ?_ ?_ ?_ ?_);(iterate 4 rfl);(exact aK _ _ _);rfl;(exact aP _ _ _ _ _));refine bodyPost_ret (aS (fn:=Tryz.f210) rfl _ _ (w.heap.size+1) 0 0 (.slice none 0 0) rfl (Blk.row F3.o.R _)) rfl ?_;exact dw F3.o.R F3.o.B (by omega) HCG.o
   have q1:=(bH hcg).2;clear hcg;have FH:=Hd F3.o.h;go_wp2_with (first | ((with_reducible refine ay ?_ 34 (.tmp 3) ?_ F3.o.V ?_ _ Tryz.underlying34 ?_ ?_ ?_);(iterate 4 rfl);exact aK _ _ _) | ((with_reducible refine ay ?_ 47 (.tmp 8) ?_ F3.o.X ?_ _ Tryz.underlying47 ?_ ?_ ?_);(iterate 4 rfl);exact gQ _ _));refine (BV a b ps A n c HN.o HL.o HK.o ⟨p3,y.ds,A2,c2⟩ F3.o.k w.heap.size w3 (F3.o.D.more F3.o.B.size) F3.o.P F3.o.B.size).mono ?_;rintro e w5 ⟨A5,n5,c5,zs,rfl,hO,hb5,_⟩;have R5:=Hd (F3.o.R.below hb5);have B5:=Hd (aa F3.o.B hb5);have O5:=Hd hO;clear hO hb5 F3;go_wp2_with ((with_reducible refine ae ?_ 34 (.tmp 6) (.tmp 45) ?_ R5.o (tbC a b (.slice A5 n5 c5)) ?_ ?_ ?_ ?_ ?_ ?_);(iterate 4 rfl);(exact aK _ _ _);rfl;(exact aP _ _ _ _ _));refine bodyPost_ret (aS (fn:=Tryz.f210) rfl _ _ (w.heap.size+1) a b (.slice A5 n5 c5) rfl (Blk.row R5.o _)) rfl ?_;exact jJ O5.o R5.o B5.o (by omega)
theorem yD (a b:Int) (ps:List Pm) (A:Option Addr) (n c:Nat) (hn:n=ps.length) (hl:n≤16) (hk:∀ x∈ps,x.Ok) (pid:Int) (u:Int) (w:World) (h:jH w w.heap.size A ps):
   Calls Tryz.prog 211 #[.agg (tbC a b (.slice A n c)), .int .i64 pid, .int .i64 u] w (TbP w):=by
 have HN:=Hd hn;have HL:=Hd hl;have HK:=Hd hk;have B0:=Hd (show Below w.heap.size w ((w.alloc (.cells (tbC a b (.slice A n c)) 34)).alloc (.cells (tbC 0 0 (.slice none 0 0)) 34)) from ((Below.refl w.heap.size w).alloc (Nat.le_refl _) _).alloc (by simp) _);have V0:=Hd ((Blk.new w (tbC a b (.slice A n c)) 34).alloc (.cells (tbC 0 0 (.slice none 0 0)) 34));have R0:=Hd (show Blk ((w.alloc (.cells (tbC a b (.slice A n c)) 34)).alloc (.cells (tbC 0 0 (.slice none 0 0)) 34)) (w.heap.size+1) 34 (tbC 0 0 (.slice none 0 0)) by
   have h:=Blk.new (w.alloc (.cells (tbC a b (.slice A n c)) 34)) (tbC 0 0 (.slice none 0 0)) 34;simpa using h)
 have D0:=Hd (h.keep B0.o (Nat.le_refl _));clear h hn hl hk;go_in;go_upto_region 1 with fail;generalize ((w.alloc (.cells (tbC a b (.slice A n c)) 34)).alloc (.cells (tbC 0 0 (.slice none 0 0)) 34))=w0 at *;go_wp2_with ((with_reducible refine ay ?_ 34 (.tmp 3) ?_ V0.o ?_ _ Tryz.underlying34 ?_ ?_ ?_);(iterate 4 rfl);exact aK _ _ _);refine (jP a b pid ps A n c HN.o w0 (D0.o.more B0.o.size)).mono ?_;rintro e w1 ⟨hb1,rfl | ⟨y,hy,A2,c2,rfl,ho⟩⟩
 · have hba:=(Below.refl w1.heap.size w1).alloc (Nat.le_refl _) (.cells (psC zPc (.slice none 0 0)) 47);have R1:=Hd ((R0.o.below hb1).below hba);have B1:=Hd (aa (aa B0.o hb1) hba);clear hba hb1 V0 R0 B0 D0;go_wp2_with ((with_reducible refine ae ?_ 34 (.tmp 6) (.tmp 19) ?_ R1.o (tbC 0 0 (.slice none 0 0)) ?_ ?_ ?_ ?_ ?_ ?_);(iterate 4 rfl);(exact aK _ _ _);rfl;(exact aP _ _ _ _ _));refine bodyPost_ret (aS (fn:=Tryz.f211) rfl _ _ (w.heap.size+1) 0 0 (.slice none 0 0) rfl (Blk.row R1.o _)) rfl ?_;exact dw R1.o B1.o (by omega) (by decide)
 · have hba:=(Below.refl w1.heap.size w1).alloc (Nat.le_refl _) (.cells (psC y.p (.slice A2 y.ds.length c2)) 47);have hbb:=aa hb1 hba;have hr1:=(R0.o.below hb1).lt;have F1:=Hd (show GtF w (w1.alloc (.cells (psC y.p (.slice A2 y.ds.length c2)) 47)) (w.heap.size+1) w1.heap.size a b A n c ps ⟨y.p,y.ds,A2,c2⟩ from ⟨V0.o.below hbb,R0.o.below hbb,Blk.new w1 _ _,(ho.low B0.o.size).below hba,D0.o.keep hbb B0.o.size,aa B0.o hbb,⟨by omega,hr1⟩,HK.o y hy⟩);clear hba hbb hb1 V0 R0 B0 D0 ho hr1;go_upto_region 2 with fail;generalize w1.alloc (.cells (psC y.p (.slice A2 y.ds.length c2)) 47)=w2 at *;generalize w1.heap.size=gp at *;have HK2:=Hd F1.o.k.2;have hgr:=F1.o.h;go_wp2_with fail;refine (uS u w2).mono ?_;rintro e w3 ⟨rfl,rfl⟩;cases hid:(decide (0≤u) && decide (u < 4294967295));case false=>
    clear hid;go_wp2_with ((with_reducible refine ae ?_ 34 (.tmp 6) (.tmp 23) ?_ F1.o.R (tbC 0 0 (.slice none 0 0)) ?_ ?_ ?_ ?_ ?_ ?_);(iterate 4 rfl);(exact aK _ _ _);rfl;(exact aP _ _ _ _ _));refine bodyPost_ret (aS (fn:=Tryz.f211) rfl _ _ (w.heap.size+1) 0 0 (.slice none 0 0) rfl (Blk.row F1.o.R _)) rfl ?_;exact dw F1.o.R F1.o.B (by omega) (by decide)
   clear hid;have c3:=F1.o.X.cell 3;have c4:=F1.o.X.cell 4;have c5:=F1.o.X.cell 5;have f3:=F1.o.X.free 3;have f4:=F1.o.X.free 4;have f5:=F1.o.X.free 5;go_wp2_with fail;refine (uT (y.p.eu == 0) y.p.gi y.p.eg u w2).mono ?_;rintro e w3 ⟨rfl,rfl⟩;have F3:=Hd ((F1.o.set (i:=4) (v:= .int .i64 (ll (y.p.eu == 0) y.p.gi y.p.eg u).1) (p' := { y.p with gi:=(ll (y.p.eu == 0) y.p.gi y.p.eg u).1 }) rfl HK2.o).set (i:=5) (v:= .int .i64 (ll (y.p.eu == 0) y.p.gi y.p.eg u).2.1) (p' := { { y.p with gi:=(ll (y.p.eu == 0) y.p.gi y.p.eg u).1 } with eg:=(ll (y.p.eu == 0) y.p.gi y.p.eg u).2.1 }) rfl HK2.o);generalize ll (y.p.eu == 0) y.p.gi y.p.eg u=cg at *;go_upto_region 8 with fail;clear F1;clear c3 f3 c4 f4 c5 f5;generalize (w2.setCell ⟨gp,4,none⟩ (.int .i64 cg.1)).setCell ⟨gp,5,none⟩ (.int .i64 cg.2.1)=w3 at *;generalize ({ { y.p with gi:=cg.1 } with eg:=cg.2.1 } :Pc)=p3 at *;by_cases hcg:cg.2.2=0;case neg=>
    have HCG:=Hd hcg;obtain ⟨p1,p2⟩:=aN hcg;clear hcg;go_wp2_with ((with_reducible refine ae ?_ 34 (.tmp 6) (.tmp 41) ?_ F3.o.R (tbC 0 0 (.slice none 0 0)) ?_ ?_ ?_ ?_ ?_ ?_);(iterate 4 rfl);(exact aK _ _ _);rfl;(exact aP _ _ _ _ _));refine bodyPost_ret (aS (fn:=Tryz.f211) rfl _ _ (w.heap.size+1) 0 0 (.slice none 0 0) rfl (Blk.row F3.o.R _)) rfl ?_;exact dw F3.o.R F3.o.B (by omega) HCG.o
   have q1:=(bH hcg).2;clear hcg;have FH:=Hd F3.o.h;go_wp2_with (first | ((with_reducible refine ay ?_ 34 (.tmp 3) ?_ F3.o.V ?_ _ Tryz.underlying34 ?_ ?_ ?_);(iterate 4 rfl);exact aK _ _ _) | ((with_reducible refine ay ?_ 47 (.tmp 8) ?_ F3.o.X ?_ _ Tryz.underlying47 ?_ ?_ ?_);(iterate 4 rfl);exact gQ _ _));refine (BV a b ps A n c HN.o HL.o HK.o ⟨p3,y.ds,A2,c2⟩ F3.o.k w.heap.size w3 (F3.o.D.more F3.o.B.size) F3.o.P F3.o.B.size).mono ?_;rintro e w5 ⟨A5,n5,c5,zs,rfl,hO,hb5,_⟩;have R5:=Hd (F3.o.R.below hb5);have B5:=Hd (aa F3.o.B hb5);have O5:=Hd hO;clear hO hb5 F3;go_wp2_with ((with_reducible refine ae ?_ 34 (.tmp 6) (.tmp 45) ?_ R5.o (tbC a b (.slice A5 n5 c5)) ?_ ?_ ?_ ?_ ?_ ?_);(iterate 4 rfl);(exact aK _ _ _);rfl;(exact aP _ _ _ _ _));refine bodyPost_ret (aS (fn:=Tryz.f211) rfl _ _ (w.heap.size+1) a b (.slice A5 n5 c5) rfl (Blk.row R5.o _)) rfl ?_;exact jJ O5.o R5.o B5.o (by omega)
abbrev clC (z:Int) (a:Nat→Int) (P:Option Addr) (np cp:Nat) (G:Option Addr) (ng cg:Nat):Array Value:=#[.int .i64 z, .int .i64 (a 0), .int .i64 (a 1), .int .i64 (a 2), .int .i64 (a 3), .slice P np cp, .slice G ng cg]
def J3 (w:World) (e:Ending) (w' :World):Prop:=(∃ b:Bool,e= .returned (.bool b))∧w=w'
theorem Cm (n:Int) (w:World):Calls Tryz.prog 138 #[.int .i64 n] w (J3 w):=by
 by_cases h:0≤n
 · go_in;go_wp2_with fail;go_ret;exact ⟨⟨_,rfl⟩,rfl⟩
 · go_in;go_wp2_with fail;go_ret;exact ⟨⟨_,rfl⟩,rfl⟩
def jT (z:Int):Nat:=if z=8∨z=13 then 2 else 1
theorem kM (z:Int):(dI z).kU≤jT z:=by
 by_cases h:0≤z∧z < 22
 · obtain ⟨h0,h1⟩:=h;obtain ⟨k,rfl⟩:∃ k:Nat,z=k:=⟨z.toNat,by omega⟩;have hk:k < 22:=(by omega);have H:∀ q:Fin 22,(dI (q.val:Int)).kU≤jT (q.val:Int):=(by decide+kernel);exact H ⟨k,hk⟩
 · rw [gz (by omega)];exact Nat.zero_le _
def Cn (z:Int) (w:World) (e:Ending) (w' :World):Prop:=∃ (g n:Nat) (p:Nat→Int) (pc:Array Value),e= .returned (.slice (some ⟨g,0,none⟩) n n)∧jT z≤n∧n≤2∧w.heap.size≤g∧Blk w' g 3 pc∧(∀ k,k < n→pc[k]? =some (.int .i64 (p k)))∧Below w.heap.size w w'
theorem dF {w w0:World} {z:Int} (hb:Below w.heap.size w w0) (p:Int) (hz:jT z≤1):Cn z w (.returned (.slice (some ⟨w0.heap.size,0,none⟩) 1 1)) (w0.alloc (.cells #[.int .i64 p] 3)):=
 ⟨w0.heap.size,1,fun _=>p,_,rfl,hz,by omega,hb.size,Blk.new w0 #[.int .i64 p] 3,fun k hk=>by
  obtain rfl:k=0:=by omega
  rfl,hb.alloc hb.size _⟩
theorem rA {w w0:World} {z:Int} (hb:Below w.heap.size w w0) (p q:Int):Cn z w (.returned (.slice (some ⟨w0.heap.size,0,none⟩) 2 2)) (w0.alloc (.cells #[.int .i64 p, .int .i64 q] 3)):=
 ⟨w0.heap.size,2,fun k=>if k=0 then p else q,_,rfl,by unfold jT;split <;> omega,by omega,hb.size,Blk.new w0 #[.int .i64 p, .int .i64 q] 3,fun k hk=>by
  have h2:k=0∨k=1:=by omega
  rcases h2 with rfl | rfl
  · rfl
  · rfl,hb.alloc hb.size _⟩
theorem yI (z:Int) (a:Nat→Int) (P:Option Addr) (np cp:Nat) (G:Option Addr) (ng cg:Nat) (w:World):Calls Tryz.prog 136 #[.agg (clC z a P np cp G ng cg)] w (WbP w):=by
 have S0:=Hd (RdW.new w 51 (clC z a P np cp G ng cg));go_in;go_upto_region 1 with fail;generalize w.alloc (.cells (clC z a P np cp G ng cg) 51)=w0 at *;have c0:w0.cell? ⟨w.heap.size,0,none⟩=some (.int .i64 z):=S0.o.x.cell 0;have c1:w0.cell? ⟨w.heap.size,1,none⟩=some (.int .i64 (a 0)):=S0.o.x.cell 1;by_cases h6:z=6;case pos=>
  subst h6;go_wp2_with fail;go_ret;exact ⟨⟨_,rfl⟩,S0.o.b⟩
 case neg=>
  have p6:=(aN h6).1;by_cases h1:z=1;case pos=>
   subst h1;go_wp2_with fail;go_ret;exact ⟨⟨_,rfl⟩,S0.o.b⟩
  case neg=>
   have p1:=(aN h1).1;by_cases h14:z=14;case pos=>
    subst h14;go_wp2_with fail;go_ret;exact ⟨⟨_,rfl⟩,S0.o.b⟩
   case neg=>
    have p14:=(aN h14).1;by_cases h15:z=15;case pos=>
     subst h15;go_wp2_with fail;go_ret;exact ⟨⟨_,rfl⟩,S0.o.b⟩
    case neg=>
     have p15:=(aN h15).1;by_cases h16:z=16;case pos=>
      subst h16;go_wp2_with fail;go_ret;exact ⟨⟨_,rfl⟩,S0.o.b⟩
     case neg=>
      have p16:=(aN h16).1;by_cases h17:z=17;case pos=>
       subst h17;go_wp2_with fail;go_ret;exact ⟨⟨_,rfl⟩,S0.o.b⟩
      case neg=>
       have p17:=(aN h17).1;by_cases h21:z=21;case pos=>
        subst h21;go_wp2_with fail;go_ret;exact ⟨⟨_,rfl⟩,S0.o.b⟩
       case neg=>
        have p21:=(aN h21).1;go_wp2_with fail;go_ret;exact ⟨⟨_,rfl⟩,S0.o.b⟩
theorem Co (z:Int) (a:Nat→Int) (P:Option Addr) (np cp:Nat) (G:Option Addr) (ng cg:Nat) (w:World):Calls Tryz.prog 134 #[.agg (clC z a P np cp G ng cg)] w (Cn z w):=by
 have S0:=Hd (RdW.new w 51 (clC z a P np cp G ng cg));go_in;go_upto_region 1 with fail;generalize w.alloc (.cells (clC z a P np cp G ng cg) 51)=w0 at *;have c0:w0.cell? ⟨w.heap.size,0,none⟩=some (.int .i64 z):=S0.o.x.cell 0;have c1:w0.cell? ⟨w.heap.size,1,none⟩=some (.int .i64 (a 0)):=S0.o.x.cell 1;by_cases h1:z=1;case pos=>
  subst h1;go_wp2_with fail;go_ret;exact dF S0.o.b _ (by decide)
 case neg=>
  have p1:=(aN h1).1;by_cases h6:z=6;case pos=>
   subst h6;cases b1:(bits BinOp.and IntKind.i64 (a 0) 1 == 0) with
   | true=>
    cases b2:(bits BinOp.and IntKind.i64 (a 0) 22 == 0) with
    | true=>
     go_wp2_with fail;go_ret;exact dF S0.o.b _ (by decide)
    | false=>
     go_wp2_with fail;go_ret;exact dF S0.o.b _ (by decide)
   | false=>
    cases b2:(bits BinOp.and IntKind.i64 (a 0) 22 == 0) with
    | true=>
     go_wp2_with fail;go_ret;exact dF S0.o.b _ (by decide)
    | false=>
     go_wp2_with fail;go_ret;exact dF S0.o.b _ (by decide)
  case neg=>
   have p6:=(aN h6).1;by_cases h8:z=8;case pos=>
    subst h8;go_wp2_with fail;go_ret;exact rA S0.o.b _ _
   case neg=>
    have p8:=(aN h8).1;by_cases h13:z=13;case pos=>
     subst h13;go_wp2_with fail;go_ret;exact rA S0.o.b _ _
    case neg=>
     have p13:=(aN h13).1;by_cases h14:z=14;case pos=>
      subst h14;go_wp2_with fail;go_ret;exact dF S0.o.b _ (by decide)
     case neg=>
      have p14:=(aN h14).1;by_cases h15:z=15;case pos=>
       subst h15;go_wp2_with fail;go_ret;exact dF S0.o.b _ (by decide)
      case neg=>
       have p15:=(aN h15).1;by_cases h17:z=17;case pos=>
        subst h17;go_wp2_with fail;go_ret;exact dF S0.o.b _ (by decide)
       case neg=>
        have p17:=(aN h17).1;by_cases h16:z=16;case pos=>
         subst h16;go_wp2_with fail;go_ret;exact dF S0.o.b _ (by decide)
        case neg=>
         have p16:=(aN h16).1;go_wp2_with fail;go_ret;exact dF S0.o.b _ (by unfold jT;rw [if_neg (fun h=>h.elim h8 h13)];exact Nat.le_refl 1)
theorem kN {P:Program} {ops:Array Oper} {rest:List Oper} {o:Oper} {a:Act} {w:World} {Q:Exit→Act→World→Prop} (hgd:o.guard=none) (t:TypeId) (parts:Array (Nat×Operand)) (ho:o.op= .build t parts)
  (cells:Array Value) (hf:P.built t (parts.map fun (i,x)=>(i,a.eval x)).toList=some cells) (h:wpList P ops Q rest (a.put o.dst (.agg cells)) w):wpList P ops Q (o :: rest) a w:=
 wpList_plain hgd fun _ hK=>wp_build t parts ho (by rw [hf];rfl) (by rw [hf];exact hK _ _ h)
theorem Cr {fn:Func} {p:Nat} (h:fn.results=#[.cell p 73]) (tmps:Array Value) (w:World) (g:Nat) (y:Itm) (r:bB) (hp:tmps.getD p undef= .pointer (some ⟨g,0,none⟩)) (hg:Blk w g 73 (aO y r)):
  (results fn tmps).run Tryz.prog w= .ok (.agg (aO y r)) w:=
 results_cell_row h tmps w g _ (aO y r) (0,0) _ hp hg Tryz.underlying73 rfl (iH y r)
def lu (gv:ByteArray) (x:Fo) (nd:Nd) (pm:Int):Itm×bB:=(⟨x.fd,x.fi,nd.uid,nd.gid,nd.kind⟩,⟨gv,x.pa,x.dd,x.di,x.nm,1,nd.mode,pm⟩)
theorem yJ (gv:ByteArray) (x:Fo) (nd:Nd) (pm:Int):Tryz.prog.built 73 [(0, .string gv),(1, .string x.pa),(2, .agg #[.int .i64 x.dd, .int .i64 x.di]),(3, .string x.nm),(4, .agg #[.int .i64 x.fd, .int .i64 x.fi]),(5, .int .i64 1),(6, .int .i64 nd.kind),(7, .int .i64 nd.mode),(8, .int .i64 nd.uid),(9, .int .i64 nd.gid),(10, .int .i64 pm)]=some (aO (lu gv x nd pm).1 (lu gv x nd pm).2):=by
 kernel_rfl
theorem vI (gv:ByteArray) (pm:Int):Tryz.prog.built 73 [(0, .string gv),(5, .int .i64 1),(10, .int .i64 pm)]=some (aO ⟨0,0,0,0,0⟩ ⟨gv,⟨#[]⟩,0,0,⟨#[]⟩,1,0,pm⟩):=by
 kernel_rfl
def J4 (gv:ByteArray) (x:Fo) (w:World) (e:Ending) (w' :World):Prop:=∃ (y:Itm) (r:bB),e= .returned (.agg (aO y r))∧r.gv=gv∧r.pa=x.pa∧r.nm=x.nm∧Below w.heap.size w w'
theorem Cs (gv:ByteArray) (pm:Int) (x:Fo) (ds:List Dm) (A:Option Addr) (n c:Nat) (hn:n=ds.length) (Am:Option Addr) (nm cm:Nat) (w:World) (h:bZ w w.heap.size A ds):
  Calls Tryz.prog 137 #[.agg #[slV A n c,slV Am nm cm], .string gv, .int .i64 pm, .agg (foC x)] w (J4 gv x w):=by
 have HN:=Hd hn;have s1:(w.alloc (.cells #[slV A n c,slV Am nm cm] 31)).heap.size=w.heap.size+1:=by simp
 have s2:((w.alloc (.cells #[slV A n c,slV Am nm cm] 31)).alloc (.cells (foC x) 223)).heap.size=w.heap.size+1+1:=by simp
 have b2:=Blk.new (w.alloc (.cells #[slV A n c,slV Am nm cm] 31)) (foC x) 223;rw [s1] at b2;have b3:=Blk.new ((w.alloc (.cells #[slV A n c,slV Am nm cm] 31)).alloc (.cells (foC x) 223)) kG 73;rw [s2] at b3;have BB:=Hd (show Below w.heap.size w (((w.alloc (.cells #[slV A n c,slV Am nm cm] 31)).alloc (.cells (foC x) 223)).alloc (.cells kG 73)) from (((Below.refl _ _).alloc (Nat.le_refl _) _).alloc (by rw [s1];omega) _).alloc (by rw [s2];omega) _);have V0:=Hd (show Blk (((w.alloc (.cells #[slV A n c,slV Am nm cm] 31)).alloc (.cells (foC x) 223)).alloc (.cells kG 73)) w.heap.size 31 #[slV A n c,slV Am nm cm] from ((Blk.new w #[slV A n c,slV Am nm cm] 31).alloc _).alloc _);have X0:=Hd (show Blk (((w.alloc (.cells #[slV A n c,slV Am nm cm] 31)).alloc (.cells (foC x) 223)).alloc (.cells kG 73)) (w.heap.size+1) 223 (foC x) from b2.alloc _);have R0:=Hd b3;have HF:=Hd (h.below BB.o);clear h hn b2 b3 s1 s2;go_in;go_upto_region 1 with fail;generalize ((w.alloc (.cells #[slV A n c,slV Am nm cm] 31)).alloc (.cells (foC x) 223)).alloc (.cells kG 73)=w0 at *;have v0:=V0.o.cell 0;have x3:w0.cell? ⟨w.heap.size+1,3,none⟩=some (.int .i64 x.fd):=X0.o.cell 3;have x4:w0.cell? ⟨w.heap.size+1,4,none⟩=some (.int .i64 x.fi):=X0.o.cell 4;go_wp2_with fail;refine (bP x.fd x.fi ds A n c HN.o w0 HF.o).mono ?_;intro e w1 hp;obtain ⟨nd,An,nn,nc,bb,rfl,hb⟩:=hp.any;have hba:=aa hb ((Below.refl w1.heap.size w1).alloc (Nat.le_refl _) (.cells (ndC nd (.slice An nn nc)) 145));have X1:=Hd (X0.o.below hba);have R1:=Hd (R0.o.below hba);have N1:=Hd (Blk.new w1 (ndC nd (.slice An nn nc)) 145);have B1:=Hd (aa BB.o hba);clear hba hb V0 X0 R0 BB HF v0 x3 x4;go_upto_region 2 with fail;generalize w1.alloc (.cells (ndC nd (.slice An nn nc)) 145)=w2 at *;generalize w1.heap.size=gn at *;have x0:w2.cell? ⟨w.heap.size+1,0,none⟩=some (.int .i64 x.dd):=X1.o.cell 0;have x1:w2.cell? ⟨w.heap.size+1,1,none⟩=some (.int .i64 x.di):=X1.o.cell 1;have x2:w2.cell? ⟨w.heap.size+1,2,none⟩=some (.string x.nm):=X1.o.cell 2;have x3:w2.cell? ⟨w.heap.size+1,3,none⟩=some (.int .i64 x.fd):=X1.o.cell 3;have x4:w2.cell? ⟨w.heap.size+1,4,none⟩=some (.int .i64 x.fi):=X1.o.cell 4;have x7:w2.cell? ⟨w.heap.size+1,7,none⟩=some (.string x.pa):=X1.o.cell 7;have n1:w2.cell? ⟨gn,1,none⟩=some (.int .i64 nd.kind):=N1.o.cell 1;have n2:w2.cell? ⟨gn,2,none⟩=some (.int .i64 nd.mode):=N1.o.cell 2;have n3:w2.cell? ⟨gn,3,none⟩=some (.int .i64 nd.uid):=N1.o.cell 3;have n4:w2.cell? ⟨gn,4,none⟩=some (.int .i64 nd.gid):=N1.o.cell 4;go_wp2_with (first | ((with_reducible refine kN ?_ 73 _ ?_ (aO (lu gv x nd pm).1 (lu gv x nd pm).2) ?_ ?_);rfl;rfl;(go_simp;exact yJ gv x nd pm)) | ((with_reducible refine ae ?_ 73 (.tmp 8) (.tmp 37) ?_ R1.o (aO (lu gv x nd pm).1 (lu gv x nd pm).2) ?_ ?_ ?_ ?_ ?_ ?_);(iterate 4 rfl);(exact iH _ _);rfl;(exact kg _ _)));refine bodyPost_ret (Cr (fn:=Tryz.f137) rfl _ _ (w.heap.size+1+1) (lu gv x nd pm).1 (lu gv x nd pm).2 rfl (Blk.row R1.o _)) rfl ?_;exact ⟨(lu gv x nd pm).1,(lu gv x nd pm).2,rfl,rfl,rfl,rfl,ai B1.o (by omega) _⟩
def jB (dev:Int) (m:Mt):Bool:= !(m.dev == dev)
theorem vM {ms:List Mt} {k:Nat} {dev:Int} (hk:k < ms.length) (h:(ms[k].dev == dev)=false):(ms.take (k+1)).filter (jB dev)=(ms.take k).filter (jB dev) ++ [ms[k]]:=by
 rw [List.take_succ_eq_append_getElem hk,List.filter_append,List.filter_cons_of_pos (by unfold jB;rw [h];rfl)];rfl
theorem take_left {ms:List Mt} {k:Nat} {dev:Int} (hk:k < ms.length) (h:(ms[k].dev == dev)=true):(ms.take (k+1)).filter (jB dev)=(ms.take k).filter (jB dev):=by
 rw [List.take_succ_eq_append_getElem hk,List.filter_append,List.filter_cons_of_neg (by unfold jB;rw [h];decide)];simp
def J6 (f:List Dv) (ms:List Mt) (dev:Int) (f' :List Dv) (ms' :List Mt):Prop:=f' =f∧ms' =ms.filter (jB dev)∧∀ m∈ms,m.od≠dev
theorem SOk.rem {f f' :List Dv} {ms ms' :List Mt} {dev:Int} (h:SOk f ms) (hr:J6 f ms dev f' ms'):SOk f' ms' :=by
 obtain ⟨rfl,rfl,h3⟩:=hr;exact ⟨h.1,(h.2.remove h3).1⟩
theorem vN (dev:Int) (ds:List Dm) (A:Option Addr) (n c:Nat) (hn:n=ds.length) (ms:List Mt) (Am:Option Addr) (nm cm:Nat) (hnm:nm=ms.length) (hl:nm≤1000) (w:World) (hf:bZ w w.heap.size A ds) (hm:AtE EMt w w.heap.size Am ms):
  Calls Tryz.prog 252 #[.agg #[slV A n c,slV Am nm cm], .int .i64 dev] w (oz (J6 (ds.map Dm.dv) ms dev) w):=by
 have HN:=Hd hn;have HNM:=Hd hnm;have HL:=Hd hl;have B0:=aT w #[slV A n c,slV Am nm cm] #[.slice none 0 0, .slice none 0 0] 31 31;have h2:=Blk.new (w.alloc (.cells #[slV A n c,slV Am nm cm] 31)) #[.slice none 0 0, .slice none 0 0] 31;simp only [World.size_alloc] at h2;have S0:=Hd (show SpF w ((w.alloc (.cells #[slV A n c,slV Am nm cm] 31)).alloc (.cells #[.slice none 0 0, .slice none 0 0] 31)) A n c ds Am nm cm ms (w.heap.size+1) from ⟨B0,hf.keep B0 (Nat.le_refl _),hm.keep B0 (Nat.le_refl _),(Blk.new w _ _).alloc _,h2,Nat.le_refl _⟩);have hw0:((w.alloc (.cells #[slV A n c,slV Am nm cm] 31)).alloc (.cells #[.slice none 0 0, .slice none 0 0] 31)).heap.size=(w.heap.size+1+1):=by simp
 clear B0 h2 hf hm hn hnm hl;go_in;go_upto_region 1 with fail;generalize (w.alloc (.cells #[slV A n c,slV Am nm cm] 31)).alloc (.cells #[.slice none 0 0, .slice none 0 0] 31)=w0 at *;by_cases hd0:dev=0;case pos=>
  have q1:=(bH hd0).1;go_wp2_with ((with_reducible refine ae ?_ 31 (.tmp 4) (.tmp 17) ?_ S0.o.R #[.slice none 0 0, .slice none 0 0] ?_ ?_ ?_ ?_ ?_ ?_);(iterate 4 rfl);(exact gu _ _);rfl;(exact eB _ _ _ _ _ _));refine bodyPost_ret (dC (fn:=Tryz.f252) rfl _ _ _ (.slice none 0 0) (.slice none 0 0) rfl (Blk.row S0.o.R _)) rfl ?_;exact S0.o.err _ (by decide)
 case neg=>
  have q1:=(aN hd0).1;have v0:=S0.o.V.cell 0;have v1:=S0.o.V.cell 1;go_wp2_with fail;clear v0 v1;refine (ou dev A n c ms Am nm cm HNM.o HL.o w0 S0.o.aU).mono ?_;rintro e w1 ⟨rfl,hb⟩;have S1:=Hd (S0.o.grow hb);have HW1:=Hd (show (w.heap.size+1+1)≤w1.heap.size by have:=hb.size;omega);clear hb S0 hw0;cases hmn:fq ms dev with
  | false=>
   clear hmn;go_wp2_with ((with_reducible refine ae ?_ 31 (.tmp 4) (.tmp 17) ?_ S1.o.R #[.slice none 0 0, .slice none 0 0] ?_ ?_ ?_ ?_ ?_ ?_);(iterate 4 rfl);(exact gu _ _);rfl;(exact eB _ _ _ _ _ _));refine bodyPost_ret (dC (fn:=Tryz.f252) rfl _ _ _ (.slice none 0 0) (.slice none 0 0) rfl (Blk.row S1.o.R _)) rfl ?_;exact S1.o.err _ (by decide)
  | true=>
   clear hmn q1 hd0;go_wp2_with fail;go_loopw [6,7] (fun v ix wr=>∃ k:Nat,k≤ms.length∧ix= .int .i64 k∧ax EMt wr (w.heap.size+1+1) v ((ms.take k).filter (jB dev))∧Hid (SpF w wr A n c ds Am nm cm ms (w.heap.size+1))∧Hid ((w.heap.size+1+1)≤wr.heap.size)∧Hid (∀ m∈ms.take k,m.od≠dev)) (fun _ ix _=>ms.length - (intOf ix).toNat);case atStart=>exact ⟨0,Nat.zero_le _,rfl,ax.nil _ _,S1,HW1,Hd (fun m hm=>by simp at hm)⟩
   case round=>
    clear S1 HW1;obtain ⟨k,hk,rfl,hown,HS,HW,HO⟩:=hrel;have HV:=Hd hown;clear hown;have v1:=HS.o.V.cell 1;have hn:=HNM.o;have WK:=Hd (bg hk (by have:=HL.o;omega));by_cases hlt:k < ms.length;case neg=>
     have hkn:k=ms.length:=(by omega);subst hkn;rw [List.take_length] at HV HO;have k1:¬ (ms.length:Int) < (nm:Int):=(by omega);clear hn hlt hk WK;have v0:=HS.o.V.cell 0;go_wp2_with fail;clear v0 v1 k1;refine (pV ds A n c HN.o ms Am nm cm HNM.o HL.o wr HS.o.files HS.o.aU).mono ?_;rintro e w6 ⟨A6,n6,c6,A7,n7,c7,es,rfl,hfs,he,hms,hb⟩;have S6:=Hd (HS.o.grow hb);have V6:=Hd (HV.o.below hb);have HW6:=Hd (Nat.le_trans HW.o hb.size);have S7:=Hd (S6.o.alloc (.cells (spC (slV A6 n6 c6) (slV A7 n7 c7)) 31));have O7:=Hd (Blk.new w6 (spC (slV A6 n6 c6) (slV A7 n7 c7)) 31);have hbn:Below w6.heap.size w6 (w6.alloc (.cells (spC (slV A6 n6 c6) (slV A7 n7 c7)) 31)):=(Below.refl w6.heap.size w6).alloc (Nat.le_refl _) _;have F7:=Hd (hfs.below hbn);have V7:=Hd (V6.o.below hbn);have HE:=Hd he;clear hfs he hms hb hbn S6 V6 HS HV;obtain ⟨A9,c9,e9,_⟩:=V7.o.at;subst e9;go_upto_region 12 with fail;generalize w6.alloc (.cells (spC (slV A6 n6 c6) (slV A7 n7 c7)) 31)=w7 at *;generalize hM:ms.filter (jB dev)=M at *;have HM:=Hd hM;clear hM;have o1:=O7.o.cell 1;have of:=O7.o.free 1;have gc:=av w7 w6.heap.size 1 (.slice A9 M.length c9);have S10:=Hd (S7.o.keep (B:=(w.heap.size+1+1)) ((Below.refl (w.heap.size+1+1) w7).setCell (p:=⟨w6.heap.size,1,none⟩) HW6.o (.slice A9 M.length c9)) (Nat.lt_succ_self _));have O10:=Hd (show Blk (w7.setCell ⟨w6.heap.size,1,none⟩ (.slice A9 M.length c9)) w6.heap.size 31 (spC (slV A6 n6 c6) (slV A9 M.length c9)) from O7.o.put 1 _);have F10:=Hd (F7.o.far gc (fun q e=>by injection e with e;subst e;exact ⟨az F7.o.own O7.o (by decide),fun dd hdd=>az (F7.o.nodes dd hdd).1 O7.o (by decide),fun dd hdd y hy=>az (F7.o.cu dd hdd y hy).1 O7.o (by decide)⟩));have M10:=Hd (V7.o.far gc (fun q e r=>by injection r with r;subst r;exact az V7.o O7.o (by decide) e));clear gc S7 O7 F7 V7;go_upto_region 13 with fail;clear o1 of;generalize w7.setCell ⟨w6.heap.size,1,none⟩ (.slice A9 M.length c9)=w10 at *;go_wp2_with (first | ((with_reducible refine ay ?_ 31 (.tmp 8) ?_ O10.o ?_ _ Tryz.underlying31 ?_ ?_ ?_);(iterate 4 rfl);exact gu _ _) | ((with_reducible refine ae ?_ 31 (.tmp 4) (.tmp 55) ?_ S10.o.R (spC (slV A6 n6 c6) (slV A9 M.length c9)) ?_ ?_ ?_ ?_ ?_ ?_);(iterate 4 rfl);(exact gu _ _);rfl;(exact eB _ _ _ _ _ _)));refine bodyPost_ret (dC (fn:=Tryz.f252) rfl _ _ (w.heap.size+1) (slV A6 n6 c6) (slV A9 M.length c9) rfl (Blk.row S10.o.R _)) rfl ?_;have gr:=aA w10 (w.heap.size+1) (spC (slV A6 n6 c6) (slV A9 M.length c9));exact ⟨ai S10.o.low (by omega) _, .inr ⟨A6,n6,c6,A9,M.length,c9,es,M,rfl,(F10.o.far gr (fun q e=>by injection e with e;subst e;exact F10.o.old (by have:=HW.o;omega))).low (by have:=HW.o;omega),(M10.o.far gr (fun q e r=>by injection r with r;have:=M10.o.ge q e;omega)).low (by omega),HE.o,HM.o.symm,HO.o⟩⟩
    case pos=>
     have k1:(k:Int) < (nm:Int):=(by omega);have k2:(0:Int)≤(k:Int):=(by omega);obtain ⟨am,rfl,hab,hcx⟩:=HS.o.aU k hlt;obtain ⟨m0,m1,m2⟩:=j4 (a:=am.add (k * 3)) hcx;have HXT:=Hd (fun h:(ms[k].dev == dev)=true=>take_left hlt h);have HXF:=Hd (fun h:(ms[k].dev == dev)=false=>vM hlt h);have HO2:=Hd (show ms[k].od≠dev→∀ m∈ms.take (k+1),m.od≠dev from fun h m hm=>by rw [List.take_succ_eq_append_getElem hlt] at hm;rcases List.mem_append.1 hm with h1 | h1;exact HO.o m h1;rw [List.mem_singleton.1 h1];exact h);have HLF:=Hd (show ((ms.take k).filter (jB dev)).length≤1000 from Nat.le_trans (List.length_filter_le _ _) (by rw [List.length_take];have:=HL.o;omega));clear hcx hn;generalize ms[k]=m at *;by_cases ho:m.od=dev;case pos=>
      have q2:=(bH ho).1;go_wp2_with ((with_reducible refine ae ?_ 31 (.tmp 4) (.tmp 34) ?_ HS.o.R #[.slice none 0 0, .slice none 0 0] ?_ ?_ ?_ ?_ ?_ ?_);(iterate 4 rfl);(exact gu _ _);rfl;(exact eB _ _ _ _ _ _));refine bodyPost_ret (dC (fn:=Tryz.f252) rfl _ _ _ (.slice none 0 0) (.slice none 0 0) rfl (Blk.row HS.o.R _)) rfl ?_;exact HS.o.err _ (by decide)
     case neg=>
      have q2:=(aN ho).1;have HON:=Hd (HO2.o ho);clear HO2 ho;by_cases hmd:m.dev=dev;case pos=>
       have q3:=(bH hmd).2;have HX:=HXT.o (bH hmd).1;have HV2:=Hd (show ax EMt wr (w.heap.size+1+1) u6 ((ms.take (k+1)).filter (jB dev)) by rw [HX];exact HV.o);clear HXT HXF HX hmd;obtain ⟨wk1,wk2⟩:=WK.o;go_wp2_with fail;clear wk1 wk2;go_roundw;case rel=>exact ⟨k+1,hlt,rfl,HV2.o,HS,HW,HON⟩
       case measure=>exact aL hlt _ rfl
      case neg=>
       have q3:=(aN hmd).2;have HX:=Hd (HXF.o (aN hmd).1);clear HXT HXF hmd;generalize (ms.take k).filter (jB dev)=l at *;obtain ⟨A8,c8,e8,_⟩:=HV.o.at;subst e8;obtain ⟨wk1,wk2⟩:=WK.o;have RW:=Hd (aI EMt wr (mtC m) 199 m rfl (Nat.lt_succ_self wr.heap.size));have V8:=Hd (HV.o.alloc (.cells (mtC m) 199));have S8:=Hd (HS.o.alloc (.cells (mtC m) 199));go_wp2_with (at_builtin;refine aj EMt rfl (.tmp 43) (.tmp 49) rfl (w.heap.size+1+1) (slV A8 l.length c8) l rfl V8.o (wr.heap.size+1) (some ⟨wr.heap.size,0,none⟩) 1 1 [m] rfl rfl RW.o (by have:=HLF.o;simp;omega) (by have:=HW.o;simp;omega) ?_);intro v9 w9 ho9 hg9 pQ;clear v1 m0 m1 m2;have S9:=Hd (S8.o.keep (B:=(w.heap.size+1+1)) ((Below.refl (w.heap.size+1+1) _).grown hg9 (by have:=HW.o;simp;omega) (fun q e=>V8.o.ge q e)) (Nat.lt_succ_self _));have HW9:=Hd (show (w.heap.size+1+1)≤w9.heap.size from Nat.le_trans HW.o (Nat.le_trans (by simp) hg9.size));have HV9:=Hd (show ax EMt w9 (w.heap.size+1+1) v9 ((ms.take (k+1)).filter (jB dev)) by rw [HX.o];exact ho9);clear ho9 hg9 pQ V8 S8 HS HV RW;go_wp2_with fail;clear wk1 wk2;go_roundw;case rel=>exact ⟨k+1,hlt,rfl,HV9.o,S9,HW9,HON⟩
       case measure=>exact aL hlt _ rfl
theorem Cu (a b:Int) (ps:List Pm) (A:Option Addr) (n c:Nat) (hn:n=ps.length) (hl:n≤16) (hk:∀ x∈ps,x.Ok) (pid:Int) (u:Int) (w:World) (h:jH w w.heap.size A ps):
   Calls Tryz.prog 212 #[.agg (tbC a b (.slice A n c)), .int .i64 pid, .int .i64 u] w (TbP w):=by
 have HN:=Hd hn;have HL:=Hd hl;have HK:=Hd hk;have B0:=Hd (show Below w.heap.size w ((w.alloc (.cells (tbC a b (.slice A n c)) 34)).alloc (.cells (tbC 0 0 (.slice none 0 0)) 34)) from ((Below.refl w.heap.size w).alloc (Nat.le_refl _) _).alloc (by simp) _);have V0:=Hd ((Blk.new w (tbC a b (.slice A n c)) 34).alloc (.cells (tbC 0 0 (.slice none 0 0)) 34));have R0:=Hd (show Blk ((w.alloc (.cells (tbC a b (.slice A n c)) 34)).alloc (.cells (tbC 0 0 (.slice none 0 0)) 34)) (w.heap.size+1) 34 (tbC 0 0 (.slice none 0 0)) by
   have h:=Blk.new (w.alloc (.cells (tbC a b (.slice A n c)) 34)) (tbC 0 0 (.slice none 0 0)) 34;simpa using h)
 have D0:=Hd (h.keep B0.o (Nat.le_refl _));clear h hn hl hk;go_in;go_upto_region 1 with fail;generalize ((w.alloc (.cells (tbC a b (.slice A n c)) 34)).alloc (.cells (tbC 0 0 (.slice none 0 0)) 34))=w0 at *;go_wp2_with ((with_reducible refine ay ?_ 34 (.tmp 3) ?_ V0.o ?_ _ Tryz.underlying34 ?_ ?_ ?_);(iterate 4 rfl);exact aK _ _ _);refine (jP a b pid ps A n c HN.o w0 (D0.o.more B0.o.size)).mono ?_;rintro e w1 ⟨hb1,rfl | ⟨y,hy,A2,c2,rfl,ho⟩⟩
 · have hba:=(Below.refl w1.heap.size w1).alloc (Nat.le_refl _) (.cells (psC zPc (.slice none 0 0)) 47);have R1:=Hd ((R0.o.below hb1).below hba);have B1:=Hd (aa (aa B0.o hb1) hba);clear hba hb1 V0 R0 B0 D0;go_wp2_with ((with_reducible refine ae ?_ 34 (.tmp 6) (.tmp 19) ?_ R1.o (tbC 0 0 (.slice none 0 0)) ?_ ?_ ?_ ?_ ?_ ?_);(iterate 4 rfl);(exact aK _ _ _);rfl;(exact aP _ _ _ _ _));refine bodyPost_ret (aS (fn:=Tryz.f212) rfl _ _ (w.heap.size+1) 0 0 (.slice none 0 0) rfl (Blk.row R1.o _)) rfl ?_;exact dw R1.o B1.o (by omega) (by decide)
 · have hba:=(Below.refl w1.heap.size w1).alloc (Nat.le_refl _) (.cells (psC y.p (.slice A2 y.ds.length c2)) 47);have hbb:=aa hb1 hba;have hr1:=(R0.o.below hb1).lt;have F1:=Hd (show GtF w (w1.alloc (.cells (psC y.p (.slice A2 y.ds.length c2)) 47)) (w.heap.size+1) w1.heap.size a b A n c ps ⟨y.p,y.ds,A2,c2⟩ from ⟨V0.o.below hbb,R0.o.below hbb,Blk.new w1 _ _,(ho.low B0.o.size).below hba,D0.o.keep hbb B0.o.size,aa B0.o hbb,⟨by omega,hr1⟩,HK.o y hy⟩);clear hba hbb hb1 V0 R0 B0 D0 ho hr1;go_upto_region 2 with fail;generalize w1.alloc (.cells (psC y.p (.slice A2 y.ds.length c2)) 47)=w2 at *;generalize w1.heap.size=gp at *;have HK2:=Hd F1.o.k.2;have hgr:=F1.o.h;go_wp2_with fail;refine (uS u w2).mono ?_;rintro e w3 ⟨rfl,rfl⟩;cases hid:(decide (0≤u) && decide (u < 4294967295));case false=>
     clear hid;go_wp2_with ((with_reducible refine ae ?_ 34 (.tmp 6) (.tmp 23) ?_ F1.o.R (tbC 0 0 (.slice none 0 0)) ?_ ?_ ?_ ?_ ?_ ?_);(iterate 4 rfl);(exact aK _ _ _);rfl;(exact aP _ _ _ _ _));refine bodyPost_ret (aS (fn:=Tryz.f212) rfl _ _ (w.heap.size+1) 0 0 (.slice none 0 0) rfl (Blk.row F1.o.R _)) rfl ?_;exact dw F1.o.R F1.o.B (by omega) (by decide)
   clear hid;have c6:=F1.o.X.cell 6;have c3:=F1.o.X.cell 3;go_upto_region 6 with fail;go_cut [31] (fun v wx=>(∃ bb:Bool,v= .bool bb)∧w2=wx);case first=>
     by_cases hau:y.p.au=4294967295;case pos=>
       have q1:=(bH hau).2;go_wp2_with fail;go_meet;exact ⟨⟨_,rfl⟩,rfl⟩
     case neg=>
       have q1:=(aN hau).2;go_wp2_with fail;go_meet;exact ⟨⟨_,rfl⟩,rfl⟩
   case rest=>
   obtain ⟨⟨bb,rfl⟩,rfl⟩:=hcut;clear c6 c3;cases bb;case true=>
     go_wp2_with ((with_reducible refine ae ?_ 34 (.tmp 6) (.tmp 32) ?_ F1.o.R (tbC 0 0 (.slice none 0 0)) ?_ ?_ ?_ ?_ ?_ ?_);(iterate 4 rfl);(exact aK _ _ _);rfl;(exact aP _ _ _ _ _));refine bodyPost_ret (aS (fn:=Tryz.f212) rfl _ _ (w.heap.size+1) 0 0 (.slice none 0 0) rfl (Blk.row F1.o.R _)) rfl ?_;exact dw F1.o.R F1.o.B (by omega) (by decide)
   have v1:=F1.o.V.cell 1;by_cases hb9:b=1073741824;case pos=>
     have q2:=(bH hb9).1;clear hb9;go_wp2_with ((with_reducible refine ae ?_ 34 (.tmp 6) (.tmp 36) ?_ F1.o.R (tbC 0 0 (.slice none 0 0)) ?_ ?_ ?_ ?_ ?_ ?_);(iterate 4 rfl);(exact aK _ _ _);rfl;(exact aP _ _ _ _ _));refine bodyPost_ret (aS (fn:=Tryz.f212) rfl _ _ (w.heap.size+1) 0 0 (.slice none 0 0) rfl (Blk.row F1.o.R _)) rfl ?_;exact dw F1.o.R F1.o.B (by omega) (by decide)
   have q2:=(aN hb9).1;clear hb9;go_upto_region 10 with fail;clear v1 q2;refine wp_region_held_drew (S:=(fun W=>Blk W w.heap.size 34 (tbC a b (.slice A n c)))) (by kernel_rfl) F1.o.V (fun hHeld=>?_);have F2:=Hd (F1.o.below (Below.refl w2.heap.size w2).drew);clear F1;generalize w2.drew=w2 at *;refine tk hHeld 0 ?_ ?_ (tk hHeld 1 ?_ ?_ (tk hHeld 2 ?_ ?_ (tk hHeld 3 ?_ ?_ ?_)));iterate 4
     rotate_left
     · intro W hSw;have v1:=hSw.cell 1;go_simp;try (with_reducible rfl)
   have F3:=Hd (F2.o.set (i:=6) (v:= .int .i64 u) (p' := { y.p with au:=u }) rfl HK2.o);have F4:=Hd (F3.o.set (i:=7) (v:= .int .i64 b) (p' := { { y.p with au:=u } with se:=b }) rfl HK2.o);have c6:=F2.o.X.cell 6;have f6:=F2.o.X.free 6;have c7:=F3.o.X.cell 7;have f7:=F3.o.X.free 7;refine rdy1 4 (fun K hK=>?_);go_simp;refine hK.o _ _ F3.o.V (fun hHeld=>?_);clear hK K;refine tk hHeld 5 ?_ ?_ ?_;rotate_left
   · intro W hSw;go_simp;try (with_reducible rfl)
   refine rdy1 6 (fun K hK=>?_);go_simp;refine hK.o _ _ F4.o.V (fun hHeld=>?_);clear hK K;clear c6 f6 c7 f7 F2 F3;refine wpAnyH_done (by kernel_rfl) ?_ _;generalize (w2.setCell ⟨gp,6,none⟩ (.int .i64 u)).setCell ⟨gp,7,none⟩ (.int .i64 b)=w3 at *;generalize ({ { y.p with au:=u } with se:=b } :Pc)=p3 at *;have FH:=Hd F4.o.h;go_wp2_with (first | ((with_reducible refine ay ?_ 34 (.tmp 3) ?_ F4.o.V ?_ _ Tryz.underlying34 ?_ ?_ ?_);(iterate 4 rfl);exact aK _ _ _) | ((with_reducible refine ay ?_ 47 (.tmp 8) ?_ F4.o.X ?_ _ Tryz.underlying47 ?_ ?_ ?_);(iterate 4 rfl);exact gQ _ _));refine (BV a b ps A n c HN.o HL.o HK.o ⟨p3,y.ds,A2,c2⟩ F4.o.k w.heap.size w3 (F4.o.D.more F4.o.B.size) F4.o.P F4.o.B.size).mono ?_;rintro e w5 ⟨A5,n5,c5,zs,rfl,hO,hb5,_⟩;have R5:=Hd (F4.o.R.below hb5);have B5:=Hd (aa F4.o.B hb5);have O5:=Hd hO;clear hO hb5 F4;have hba:=(Below.refl w5.heap.size w5).alloc (Nat.le_refl _) (.cells (tbC a b (.slice A5 n5 c5)) 34);have R6:=Hd (R5.o.below hba);have B6:=Hd (aa B5.o hba);have O6:=Hd (O5.o.below hba);have G6:=Hd (Blk.new w5 (tbC a b (.slice A5 n5 c5)) 34);have hr5:=R5.o.lt;have hb5:=B5.o.size;clear hba R5 B5 O5;go_upto_region 12 with fail;generalize w5.alloc (.cells (tbC a b (.slice A5 n5 c5)) 34)=w6 at *;generalize w5.heap.size=go at *;have c1:=G6.o.cell 1;have f1:=G6.o.free 1;go_upto_region 13 with fail;clear c1 f1;have G7:=Hd (show Blk (w6.setCell ⟨go,1,none⟩ (.int .i64 (wrap64 (b+1)))) go 34 (tbC a (wrap64 (b+1)) (.slice A5 n5 c5)) from G6.o.put 1 _);have R7:=Hd (R6.o.af (p:=⟨go,1,none⟩) (.int .i64 (wrap64 (b+1))) (by show w.heap.size+1≠go;omega));have B7:=Hd (B6.o.setCell (p:=⟨go,1,none⟩) (by show w.heap.size≤go;omega) (.int .i64 (wrap64 (b+1))));have O7:=Hd (O6.o.far (av w6 go 1 (.int .i64 (wrap64 (b+1)))) (fun q e=>by injection e with e;subst e;exact O6.o.blk G6.o (by decide) (by decide)));clear G6 R6 B6 O6;generalize wrap64 (b+1)=b7 at *;generalize w6.setCell ⟨go,1,none⟩ (.int .i64 b7)=w7 at *;go_wp2_with (first | ((with_reducible refine ay ?_ 34 (.tmp 10) ?_ G7.o ?_ _ Tryz.underlying34 ?_ ?_ ?_);(iterate 4 rfl);exact aK _ _ _) | ((with_reducible refine ae ?_ 34 (.tmp 6) (.tmp 49) ?_ R7.o (tbC a b7 (.slice A5 n5 c5)) ?_ ?_ ?_ ?_ ?_ ?_);(iterate 4 rfl);(exact aK _ _ _);rfl;(exact aP _ _ _ _ _)));refine bodyPost_ret (aS (fn:=Tryz.f212) rfl _ _ (w.heap.size+1) a b7 (.slice A5 n5 c5) rfl (Blk.row R7.o _)) rfl ?_;exact jJ O7.o R7.o B7.o (by omega)
def dK (w:World) (base:Nat) (v:Value) (L:List Rc):Prop:=∃ xs:List Rm,xs.map (·.r)=L∧ax ER w base v xs∧∀ x∈xs,ax EP w base x.sl x.r.ps
section
variable {w w' :World} {base:Nat} {v v' :Value} {L:List Rc}
theorem dK.nil (w:World) (base:Nat):dK w base (.slice none 0 0) []:=⟨[],rfl,ax.nil _ _,fun _ h=>by cases h⟩
theorem dK.below (h:dK w base v L) (hb:Below w.heap.size w w'):dK w' base v L:=by
 obtain ⟨xs,e,ho,hp⟩:=h;exact ⟨xs,e,ho.below hb,fun x hx=>(hp x hx).below hb⟩
theorem dK.cell (h:dK w base v L) {g i:Nat} {t:TypeId} {cs:Array Value} (hg:Blk w g t cs) (h1:(77:Nat)≠t) (h2:(79:Nat)≠t) (u:Value):dK (w.setCell ⟨g,i,none⟩ u) base v L:=by
 obtain ⟨xs,e,ho,hp⟩:=h;exact ⟨xs,e,ho.bY (az ho hg h1) u,fun x hx=>(hp x hx).bY (az (hp x hx) hg h2) u⟩
theorem dK.app (h:dK w base v L) (x:Rm) {xs:List Rm} (e:xs.map (·.r)=L) (ho:ax ER w base v xs) (hp:∀ x∈xs,ax EP w base x.sl x.r.ps) (hx:ax EP w base x.sl x.r.ps) (hn:ax ER w' base v' (xs ++ [x])) (hg:w.grownBy w' v.ownBlock):dK w' base v' (L ++ [x.r]):=by
 refine ⟨xs ++ [x],by rw [List.map_append,e];rfl,hn,fun y hy=>?_⟩;have k:∀ {y:Rm},ax EP w base y.sl y.r.ps→ax EP w' base y.sl y.r.ps:=fun {y} hy=>hy.far hg (fun k e r=>aB hy ho (show (79:Nat)≠77 by decide) k e r);rcases List.mem_append.1 hy with hy | hy
 · exact k (hp y hy)
 · rw [List.mem_singleton.1 hy];exact k hx
end
structure Mk where
 A:Option Addr
 n:Nat
 c:Nat
 v2:Value
 cx:Ctx
 r:bN
 Ai:Option Addr
 ni:Nat
 ci:Nat
 ti:Int
 rs:List Ru
 is:List (Itm×bB)
def Mk.C (m:Mk) (v:Value):Array Value:=#[.slice m.A m.n m.c,m.v2, .int .i64 m.cx.ph, .int .i64 (m.cx.p 0), .int .i64 (m.cx.p 1), .int .i64 (m.cx.p 2), .int .i64 (m.cx.p 3), .int .i64 (m.cx.p 4), .int .i64 (m.cx.p 5), .int .i64 (m.cx.p 6), .int .i64 (m.cx.p 7), .int .i64 m.r.d, .int .i64 m.r.i, .string m.cx.comm, .string m.cx.exe,m.r.o.v, .bool m.r.u, .int .i64 m.r.n, .int .i64 (m.cx.a 0), .int .i64 (m.cx.a 1), .int .i64 (m.cx.a 2), .int .i64 (m.cx.a 3),m.r.ps.v,m.r.gs.v, .int .i64 m.cx.ex, .slice m.Ai m.ni m.ci, .int .i64 m.cx.ty, .int .i64 m.ti,v]
abbrev Mk.X (m:Mk):Array Value:=bE m.cx m.r (.slice m.Ai m.ni m.ci)
abbrev Mk.P (m:Mk):Array Value:=#[.slice m.A m.n m.c,m.v2]
def Mk.ex (m:Mk) (t:Int):Bool:=kQ (m.rs.map (·.r)) m.cx m.r.n (m.is.map (·.1)) t
theorem Mk.Gu (m:Mk) (t:Int):m.ex t=kQ (m.rs.map (·.r)) m.cx m.r.n (m.is.map (·.1)) t:=rfl
theorem Mk.list (m:Mk) (v:Value):(m.C v).toList= [.slice m.A m.n m.c,m.v2] ++ (m.X.toList ++ [.int .i64 m.ti,v]):=rfl
theorem Mk.sub (m:Mk) (v:Value) (j:Nat) (u:Value) (h:m.X.toList[j]? =some u):(m.C v)[2+j]? =some u:=by
 rw [← Array.getElem?_toList,m.list,List.getElem?_append_right (by simp)];have hj:j < m.X.toList.length:=(List.getElem?_eq_some_iff.1 h).1;rw [List.getElem?_append_left (by simpa using hj)];simpa using h
theorem Mk.c27 (m:Mk) (v:Value):(m.C v)[27]? =some (.int .i64 m.ti):=rfl
theorem Mk.c28 (m:Mk) (v:Value):(m.C v)[28]? =some v:=rfl
theorem Mk.set (m:Mk) (v u:Value):(m.C v).setIfInBounds 28 u=m.C u:=rfl
def NC (m:Mk):Prop:=∀ (t:Int) (w:World),lC w w.heap.size m.A m.rs→cz w w.heap.size m.Ai m.is→
 Calls Tryz.prog 94 #[.agg m.P, .agg m.X, .int .i64 t] w fun e w' =>e= .returned (.bool (m.ex t))∧Below w.heap.size w w'
structure Mk.Ok (m:Mk):Prop where
 hn:m.n=m.rs.length
 hi:m.ni=m.is.length
 few:m.ni≤1000
 xc:NC m
structure EvG (m:Mk) (w:World) (base g:Nat) (L:List Rc):Prop where
 blk:∃ v,Blk w g 124 (m.C v)∧dK w base v L
 hg:base≤g
 rules:lC w base m.A m.rs
 items:cz w base m.Ai m.is
 ok:m.Ok
 few:L.length≤2000
def jU (m:Mk) (L:List Rc) (t:Int) (ps:List Pr):List Rc:=if m.ex t=true then L else L ++ [⟨t,m.ti,0,ps⟩]
section
variable {m:Mk} {w w' :World} {base g:Nat} {L:List Rc}
theorem EvG.below (h:EvG m w base g L) (hb:Below w.heap.size w w'):EvG m w' base g L:=by
 obtain ⟨v,h1,h2⟩:=h.blk;have hl:base≤w.heap.size:=Nat.le_trans h.hg (Nat.le_of_lt h1.lt);exact ⟨⟨v,h1.below hb,h2.below hb⟩,h.hg,h.rules.keep hb hl,h.items.keep hb hl,h.ok,h.few⟩
theorem EvG.lt (h:EvG m w base g L):g < w.heap.size:=by
 obtain ⟨v,h1,_⟩:=h.blk;exact h1.lt
end
theorem Ay {m:Mk} {w:World} {g:Nat} {v:Value} (h:Blk w g 124 (m.C v)):(loadVar 54 ⟨g,2,none⟩).run Tryz.prog w= .ok (.agg m.X) w:=
 oF (fun j u hu=>by rw [IE,h.cell];exact m.sub v j u hu) Tryz.underlying54 rfl (jK _ _ _)
theorem Gv {m:Mk} {w:World} {g:Nat} {v:Value} (h:Blk w g 124 (m.C v)):(loadVar 41 ⟨g,0,none⟩).run Tryz.prog w= .ok (.agg m.P) w:=
 oF (fun j u hu=>by
  rw [IE,h.cell]
  match j with
  | 0=>simp at hu;subst hu;rfl
  | 1=>simp at hu;subst hu;rfl
  | j+2=>simp at hu) Tryz.underlying41 rfl (by show _=some 2;kernel_rfl)
def xH (w:World) (A:Option Addr) (L:List Rc):Prop:=∃ xs:List Rm,xs.map (·.r)=L∧AtE ER w w.heap.size A xs∧∀ x∈xs,AtE EP w w.heap.size x.A x.r.ps
theorem xH.below {w w' :World} {A:Option Addr} {L:List Rc} (h:xH w A L) (hb:Below w.heap.size w w'):xH w' A L:=by
 obtain ⟨xs,e,h1,h2⟩:=h;exact ⟨xs,e,h1.below hb,fun x hx=>(h2 x hx).below hb⟩
theorem dK.at {w:World} {base:Nat} {A:Option Addr} {n c:Nat} {L:List Rc} (h:dK w base (.slice A n c) L):xH w A L∧n=L.length:=by
 obtain ⟨xs,e,h1,h2⟩:=h;obtain ⟨A',c',e2,h3⟩:=h1.at;injection e2 with e3 e4 e5;subst e3 e4;refine ⟨⟨xs,e,h3,fun x hx=>?_⟩,by rw [← e,List.length_map]⟩;obtain ⟨A1,c1,e6,h4⟩:=(h2 x hx).at;injection e6 with e7 _ _;rw [e7];exact h4
theorem AX {w:World} {a:Addr} {x:Rm} (h:∀ j,j < 4→w.cell? (a.add j)=(ER.C x)[j]?):(loadVar 77 a).run Tryz.prog w= .ok (rcV x.r x.sl) w:=
 oF (cs:=rcC x.r x.sl) (fun j v hv=>by
  have hj:j < 4:=(List.getElem?_eq_some_iff.1 hv).1;rw [h j hj];exact hv) Tryz.underlying77 rfl (JL _ _)
attribute [-go_sem] loadVar
theorem AY (L:List Rc) (A B:Option Addr) (n ca cb:Nat) (hn:n=L.length) (hl:n≤1000000) (hps:∀ r∈L,r.ps.length≤1000000) (w:World) (ha:xH w A L) (hb:xH w B L):
  Calls Tryz.prog 16 #[.slice A n ca, .slice B n cb] w fun e w' =>e= .returned (.bool true)∧Below w.heap.size w w' :=by
 obtain ⟨xs,ex,hx,hxp⟩:=ha;obtain ⟨ys,ey,hy,hyp⟩:=hb;have HX:=Hd hx;have HY:=Hd hy;have HXP:=Hd hxp;have HYP:=Hd hyp;have HN:=Hd hn;have HL:=Hd hl;have HXL:=Hd (show xs.length=n by rw [hn, ← ex,List.length_map]);have HYL:=Hd (show ys.length=n by rw [hn, ← ey,List.length_map]);have HE:=Hd (show ∀ k (h1:k < xs.length) (h2:k < ys.length),ys[k].r=xs[k].r∧xs[k].r.ps.length≤1000000 from fun k h1 h2=>by
  have e1:(xs.map (·.r))[k]? =(ys.map (·.r))[k]? :=by rw [ex,ey]
  rw [List.getElem?_map,List.getElem?_map,List.getElem?_eq_getElem h1,List.getElem?_eq_getElem h2] at e1;refine ⟨(Option.some.inj e1).symm,hps _ ?_⟩;rw [← ex];exact List.mem_map.2 ⟨_,List.getElem_mem h1,rfl⟩)
 clear hx hy hxp hyp hn hl hps ex ey;go_in;go_wp2_with fail;go_loopw [5] (fun ix wr=>∃ k:Nat,k≤n∧ix= .int .i64 (k:Int)∧Hid (Below w.heap.size w wr)) (fun ix _=>n - (intOf ix).toNat);case atStart=>exact ⟨0,Nat.zero_le _,rfl,Hd (Below.refl _ _)⟩
 case round=>
  obtain ⟨k,hk,rfl,HB⟩:=hrel;by_cases hlt:k < n;case pos=>
   have hx:k < xs.length:=(by rw [HXL.o];exact hlt);have hy:k < ys.length:=(by rw [HYL.o];exact hlt);have k0:(0:Int)≤(k:Int):=(by omega);have kn:(k:Int) < (n:Int):=(by omega);obtain ⟨ad,rfl,hab,hcx⟩:=HX.o k hx;obtain ⟨bd,rfl,hbb,hcy⟩:=HY.o k hy;obtain ⟨hxy,hlen⟩:=HE.o k hx hy;have px:=HXP.o xs[k] (List.getElem_mem hx);have py:=HYP.o ys[k] (List.getElem_mem hy);generalize xs[k]=x at *;generalize ys[k]=y at *;obtain ⟨r0,A1,c1⟩:=x;obtain ⟨r,B1,c2⟩:=y;simp only at hxy hlen px py;subst hxy;have HCX:=Hd hcx;have HCY:=Hd hcy;have HPX:=Hd px;have HPY:=Hd py;have HLN:=Hd hlen;clear hcx hcy px py hlen;have hk9:k≤1000000:=(by have:=HL.o;omega);obtain ⟨q7,q8⟩:=bg hk9 (Nat.le_refl _);have Q7:=Hd (And.intro q7 q8);clear q7 q8;go_upto_region 6 with fail;refine wp_region_held_drew (S:=(fun W' =>Below w.heap.size w W')) (by kernel_rfl) HB.o.drew (fun hHeld=>?_);clear HB;refine tk hHeld 0 ?_ ?_ (tk hHeld 1 ?_ ?_ (tk hHeld 2 ?_ ?_ (tk hHeld 3 ?_ ?_ (tk hHeld 4 ?_ ?_ (tk hHeld 5 ?_ ?_ (tk hHeld 6 ?_ ?_ (tk hHeld 7 ?_ ?_ ?_)))))));iterate 8
     rotate_left
     · intro W hSw;have kk:=AX (a:=ad.add (k * 4)) (fun j hj=>(hSw.cell (p:=(ad.add (k * 4)).add j) (by rw [ak,ak];exact hab)).trans (HCX.o j hj));have Kz:=AX (a:=bd.add (k * 4)) (fun j hj=>(hSw.cell (p:=(bd.add (k * 4)).add j) (by rw [ak,ak];exact hbb)).trans (HCY.o j hj));go_simp;try (with_reducible rfl)
   refine rdy1 8 (fun K hK=>?_);go_simp;go_at_call 31;refine (JN r A1 B1 r.ps.length c1 c2 rfl HLN.o _ ((HPX.o.keep hHeld (Nat.le_refl _)).more hHeld.size) ((HPY.o.keep hHeld (Nat.le_refl _)).more hHeld.size)).mono ?_;rintro e w2 ⟨rfl,hb2⟩;have hh:=aa hHeld hb2;clear hb2;go_simp;refine hK.o _ _ hh (fun hHeld=>?_);clear hK K;clear hh;refine tk hHeld 9 ?_ ?_ ?_;rotate_left
   · intro W hSw;go_simp;try (with_reducible rfl)
   have HB2:=Hd hHeld;refine wpAnyH_done (by kernel_rfl) ?_ _;go_simp;obtain ⟨q7,q8⟩:=Q7.o;go_wp2_with fail;clear q7 q8;go_roundw;case rel=>exact ⟨k+1,hlt,by go_num,HB2⟩
   case measure=>exact aL hlt _ rfl
  case neg=>
   obtain rfl:k=n:=(by omega);have kn:¬ (k:Int) < (k:Int):=(by omega);go_wp2_with fail;go_ret;exact ⟨rfl,HB.o⟩
end Go.Proofs.YtollifnnpihfdaaGreatDoor
