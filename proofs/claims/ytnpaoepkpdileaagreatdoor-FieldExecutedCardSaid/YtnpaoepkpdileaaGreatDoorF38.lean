import Derived.Test.YtnpaoepkpdileaaGreatDoorF37
set_option maxRecDepth 100000
set_option maxHeartbeats 64000000
set_option linter.all false
namespace Go.Proofs.YtnpaoepkpdileaaGreatDoor
open Go.RowKit
theorem z8 (a b:Int) (ps:List Pm) (A:Option Addr) (n c:Nat) (hn:n=ps.length) (hl:n≤16) (hk:∀ x∈ps,x.Ok) (pid:Int) (d i:Int) (w:World) (h:jI w w.heap.size A ps):
   Calls Tryz.prog 99 #[.agg (tbC a b (.slice A n c)), .int .i64 pid, .agg #[.int .i64 d, .int .i64 i]] w (TbP w):=by
 have HN:=Hd hn;have HL:=Hd hl;have HK:=Hd hk;have B0:=Hd (show Below w.heap.size w (((w.alloc (.cells (tbC a b (.slice A n c)) 45)).alloc (.cells #[.int .i64 d, .int .i64 i] 26)).alloc (.cells (tbC 0 0 (.slice none 0 0)) 45)) from (((Below.refl w.heap.size w).alloc (Nat.le_refl _) _).alloc (by simp) _).alloc (by simp;omega) _);have V0:=Hd (((Blk.new w (tbC a b (.slice A n c)) 45).alloc (.cells #[.int .i64 d, .int .i64 i] 26)).alloc (.cells (tbC 0 0 (.slice none 0 0)) 45));have U0:=Hd (show Blk (((w.alloc (.cells (tbC a b (.slice A n c)) 45)).alloc (.cells #[.int .i64 d, .int .i64 i] 26)).alloc (.cells (tbC 0 0 (.slice none 0 0)) 45)) (w.heap.size+1) 26 #[.int .i64 d, .int .i64 i] by
   have h:=((Blk.new (w.alloc (.cells (tbC a b (.slice A n c)) 45)) #[.int .i64 d, .int .i64 i] 26).alloc (.cells (tbC 0 0 (.slice none 0 0)) 45));simpa using h)
 have R0:=Hd (show Blk (((w.alloc (.cells (tbC a b (.slice A n c)) 45)).alloc (.cells #[.int .i64 d, .int .i64 i] 26)).alloc (.cells (tbC 0 0 (.slice none 0 0)) 45)) (w.heap.size+1+1) 45 (tbC 0 0 (.slice none 0 0)) by
   have h:=Blk.new ((w.alloc (.cells (tbC a b (.slice A n c)) 45)).alloc (.cells #[.int .i64 d, .int .i64 i] 26)) (tbC 0 0 (.slice none 0 0)) 45;simpa using h)
 have D0:=Hd (h.keep B0.o (Nat.le_refl _));clear h hn hl hk;go_in;go_upto_region 1 with fail;generalize (((w.alloc (.cells (tbC a b (.slice A n c)) 45)).alloc (.cells #[.int .i64 d, .int .i64 i] 26)).alloc (.cells (tbC 0 0 (.slice none 0 0)) 45))=w0 at *;go_wp2_with ((with_reducible refine ax ?_ 45 (.tmp 3) ?_ V0.o ?_ _ Tryz.underlying45 ?_ ?_ ?_);(iterate 4 rfl);exact aK _ _ _);refine (jP a b pid ps A n c HN.o w0 (D0.o.more B0.o.size)).mono ?_;rintro e w1 ⟨hb1,rfl | ⟨y,hy,A2,c2,rfl,ho⟩⟩
 · have hba:=(Below.refl w1.heap.size w1).alloc (Nat.le_refl _) (.cells (psC zPc (.slice none 0 0)) 29);have R1:=Hd ((R0.o.below hb1).below hba);have B1:=Hd (aa (aa B0.o hb1) hba);clear hba hb1 V0 R0 B0 D0;go_wp2_with ((with_reducible refine ae ?_ 45 (.tmp 6) (.tmp 18) ?_ R1.o (tbC 0 0 (.slice none 0 0)) ?_ ?_ ?_ ?_ ?_ ?_);(iterate 4 rfl);(exact aK _ _ _);rfl;(exact aN _ _ _ _ _));refine bodyPost_ret (aQ (fn:=Tryz.f99) rfl _ _ (w.heap.size+1+1) 0 0 (.slice none 0 0) rfl (Blk.row R1.o _)) rfl ?_;exact dF R1.o B1.o (by omega) (by decide)
 · have hba:=(Below.refl w1.heap.size w1).alloc (Nat.le_refl _) (.cells (psC y.p (.slice A2 y.ds.length c2)) 29);have hbb:=aa hb1 hba;have hr1:=(R0.o.below hb1).lt;have F1:=Hd (show GtF w (w1.alloc (.cells (psC y.p (.slice A2 y.ds.length c2)) 29)) (w.heap.size+1+1) w1.heap.size a b A n c ps ⟨y.p,y.ds,A2,c2⟩ from ⟨V0.o.below hbb,R0.o.below hbb,Blk.new w1 _ _,(ho.low B0.o.size).below hba,D0.o.keep hbb B0.o.size,aa B0.o hbb,⟨by omega,hr1⟩,HK.o y hy⟩);have U0x:=Hd (U0.o.below hbb);clear hba hbb hb1 V0 R0 B0 D0 ho hr1 U0;go_upto_region 2 with fail;generalize w1.alloc (.cells (psC y.p (.slice A2 y.ds.length c2)) 29)=w2 at *;generalize w1.heap.size=gp at *;have HK2:=Hd F1.o.k.2;have c8:=F1.o.X.cell 8;have c9:=F1.o.X.cell 9;have f8:=F1.o.X.free 8;have f9:=F1.o.X.free 9;have u0:=U0x.o.cell 0;have u1:=U0x.o.cell 1;have F3:=Hd ((F1.o.set (i:=8) (v:= .int .i64 d) (p' := { y.p with cd:=d }) rfl HK2.o).set (i:=9) (v:= .int .i64 i) (p' := { { y.p with cd:=d } with ci:=i }) rfl HK2.o);go_upto_region 5 with fail;clear u0 u1 F1;clear c8 f8 c9 f9;generalize (w2.setCell ⟨gp,8,none⟩ (.int .i64 d)).setCell ⟨gp,9,none⟩ (.int .i64 i)=w3 at *;generalize ({ { y.p with cd:=d } with ci:=i } :Pc)=p3 at *;have FH:=Hd F3.o.h;go_wp2_with (first | ((with_reducible refine ax ?_ 45 (.tmp 3) ?_ F3.o.V ?_ _ Tryz.underlying45 ?_ ?_ ?_);(iterate 4 rfl);exact aK _ _ _) | ((with_reducible refine ax ?_ 29 (.tmp 8) ?_ F3.o.X ?_ _ Tryz.underlying29 ?_ ?_ ?_);(iterate 4 rfl);exact gU _ _));refine (zN a b ps A n c HN.o HL.o HK.o ⟨p3,y.ds,A2,c2⟩ F3.o.k w.heap.size w3 (F3.o.D.more F3.o.B.size) F3.o.P F3.o.B.size).mono ?_;rintro e w5 ⟨A5,n5,c5,zs,rfl,hO,hb5,_⟩;have R5:=Hd (F3.o.R.below hb5);have B5:=Hd (aa F3.o.B hb5);have O5:=Hd hO;clear hO hb5 F3;go_wp2_with ((with_reducible refine ae ?_ 45 (.tmp 6) (.tmp 23) ?_ R5.o (tbC a b (.slice A5 n5 c5)) ?_ ?_ ?_ ?_ ?_ ?_);(iterate 4 rfl);(exact aK _ _ _);rfl;(exact aN _ _ _ _ _));refine bodyPost_ret (aQ (fn:=Tryz.f99) rfl _ _ (w.heap.size+1+1) a b (.slice A5 n5 c5) rfl (Blk.row R5.o _)) rfl ?_;exact jK O5.o R5.o B5.o (by omega)
theorem CX (a b:Int) (ps:List Pm) (A:Option Addr) (n c:Nat) (hn:n=ps.length) (hl:n≤16) (hk:∀ x∈ps,x.Ok) (pid:Int) (exe com:ByteArray) (hxs:exe.size≤640) (hcs:com.size≤640) (w:World) (h:jI w w.heap.size A ps):
   Calls Tryz.prog 98 #[.agg (tbC a b (.slice A n c)), .int .i64 pid, .string exe, .string com] w (TbP w):=by
 have HN:=Hd hn;have HL:=Hd hl;have HK:=Hd hk;have HXS:=Hd hxs;have HCS:=Hd hcs;have B0:=Hd (show Below w.heap.size w ((w.alloc (.cells (tbC a b (.slice A n c)) 45)).alloc (.cells (tbC 0 0 (.slice none 0 0)) 45)) from ((Below.refl w.heap.size w).alloc (Nat.le_refl _) _).alloc (by simp) _);have V0:=Hd ((Blk.new w (tbC a b (.slice A n c)) 45).alloc (.cells (tbC 0 0 (.slice none 0 0)) 45));have R0:=Hd (show Blk ((w.alloc (.cells (tbC a b (.slice A n c)) 45)).alloc (.cells (tbC 0 0 (.slice none 0 0)) 45)) (w.heap.size+1) 45 (tbC 0 0 (.slice none 0 0)) by
   have h:=Blk.new (w.alloc (.cells (tbC a b (.slice A n c)) 45)) (tbC 0 0 (.slice none 0 0)) 45;simpa using h)
 have D0:=Hd (h.keep B0.o (Nat.le_refl _));clear h hn hl hk;go_in;go_upto_region 1 with fail;generalize ((w.alloc (.cells (tbC a b (.slice A n c)) 45)).alloc (.cells (tbC 0 0 (.slice none 0 0)) 45))=w0 at *;go_wp2_with ((with_reducible refine ax ?_ 45 (.tmp 4) ?_ V0.o ?_ _ Tryz.underlying45 ?_ ?_ ?_);(iterate 4 rfl);exact aK _ _ _);refine (jP a b pid ps A n c HN.o w0 (D0.o.more B0.o.size)).mono ?_;rintro e w1 ⟨hb1,rfl | ⟨y,hy,A2,c2,rfl,ho⟩⟩
 · have hba:=(Below.refl w1.heap.size w1).alloc (Nat.le_refl _) (.cells (psC zPc (.slice none 0 0)) 29);have R1:=Hd ((R0.o.below hb1).below hba);have B1:=Hd (aa (aa B0.o hb1) hba);clear hba hb1 V0 R0 B0 D0;go_wp2_with ((with_reducible refine ae ?_ 45 (.tmp 8) (.tmp 20) ?_ R1.o (tbC 0 0 (.slice none 0 0)) ?_ ?_ ?_ ?_ ?_ ?_);(iterate 4 rfl);(exact aK _ _ _);rfl;(exact aN _ _ _ _ _));refine bodyPost_ret (aQ (fn:=Tryz.f98) rfl _ _ (w.heap.size+1) 0 0 (.slice none 0 0) rfl (Blk.row R1.o _)) rfl ?_;exact dF R1.o B1.o (by omega) (by decide)
 · have hba:=(Below.refl w1.heap.size w1).alloc (Nat.le_refl _) (.cells (psC y.p (.slice A2 y.ds.length c2)) 29);have hbb:=aa hb1 hba;have hr1:=(R0.o.below hb1).lt;have F1:=Hd (show GtF w (w1.alloc (.cells (psC y.p (.slice A2 y.ds.length c2)) 29)) (w.heap.size+1) w1.heap.size a b A n c ps ⟨y.p,y.ds,A2,c2⟩ from ⟨V0.o.below hbb,R0.o.below hbb,Blk.new w1 _ _,(ho.low B0.o.size).below hba,D0.o.keep hbb B0.o.size,aa B0.o hbb,⟨by omega,hr1⟩,HK.o y hy⟩);clear hba hbb hb1 V0 R0 B0 D0 ho hr1;go_upto_region 2 with fail;generalize w1.alloc (.cells (psC y.p (.slice A2 y.ds.length c2)) 29)=w2 at *;generalize w1.heap.size=gp at *;have HK2:=Hd F1.o.k.2;have c10:=F1.o.X.cell 10;have c11:=F1.o.X.cell 11;have f10:=F1.o.X.free 10;have f11:=F1.o.X.free 11;have F3:=Hd ((F1.o.set (i:=11) (v:= .string exe) (p' := { y.p with ex:=exe }) rfl ⟨HK2.o.1,HXS.o⟩).set (i:=10) (v:= .string com) (p' := { { y.p with ex:=exe } with co:=com }) rfl ⟨HCS.o,HXS.o⟩);go_upto_region 5 with fail;clear F1;clear c10 f10 c11 f11;generalize (w2.setCell ⟨gp,11,none⟩ (.string exe)).setCell ⟨gp,10,none⟩ (.string com)=w3 at *;generalize ({ { y.p with ex:=exe } with co:=com } :Pc)=p3 at *;have FH:=Hd F3.o.h;go_wp2_with (first | ((with_reducible refine ax ?_ 45 (.tmp 4) ?_ F3.o.V ?_ _ Tryz.underlying45 ?_ ?_ ?_);(iterate 4 rfl);exact aK _ _ _) | ((with_reducible refine ax ?_ 29 (.tmp 10) ?_ F3.o.X ?_ _ Tryz.underlying29 ?_ ?_ ?_);(iterate 4 rfl);exact gU _ _));refine (zN a b ps A n c HN.o HL.o HK.o ⟨p3,y.ds,A2,c2⟩ F3.o.k w.heap.size w3 (F3.o.D.more F3.o.B.size) F3.o.P F3.o.B.size).mono ?_;rintro e w5 ⟨A5,n5,c5,zs,rfl,hO,hb5,_⟩;have R5:=Hd (F3.o.R.below hb5);have B5:=Hd (aa F3.o.B hb5);have O5:=Hd hO;clear hO hb5 F3;go_wp2_with ((with_reducible refine ae ?_ 45 (.tmp 8) (.tmp 27) ?_ R5.o (tbC a b (.slice A5 n5 c5)) ?_ ?_ ?_ ?_ ?_ ?_);(iterate 4 rfl);(exact aK _ _ _);rfl;(exact aN _ _ _ _ _));refine bodyPost_ret (aQ (fn:=Tryz.f98) rfl _ _ (w.heap.size+1) a b (.slice A5 n5 c5) rfl (Blk.row R5.o _)) rfl ?_;exact jK O5.o R5.o B5.o (by omega)
theorem xH (a b:Int) (ps:List Pm) (A:Option Addr) (n c:Nat) (hn:n=ps.length) (hl:n≤16) (hk:∀ x∈ps,x.Ok) (pid:Int) (u:Int) (w:World) (h:jI w w.heap.size A ps):
   Calls Tryz.prog 103 #[.agg (tbC a b (.slice A n c)), .int .i64 pid, .int .i64 u] w (TbP w):=by
 have HN:=Hd hn;have HL:=Hd hl;have HK:=Hd hk;have B0:=Hd (show Below w.heap.size w ((w.alloc (.cells (tbC a b (.slice A n c)) 45)).alloc (.cells (tbC 0 0 (.slice none 0 0)) 45)) from ((Below.refl w.heap.size w).alloc (Nat.le_refl _) _).alloc (by simp) _);have V0:=Hd ((Blk.new w (tbC a b (.slice A n c)) 45).alloc (.cells (tbC 0 0 (.slice none 0 0)) 45));have R0:=Hd (show Blk ((w.alloc (.cells (tbC a b (.slice A n c)) 45)).alloc (.cells (tbC 0 0 (.slice none 0 0)) 45)) (w.heap.size+1) 45 (tbC 0 0 (.slice none 0 0)) by
   have h:=Blk.new (w.alloc (.cells (tbC a b (.slice A n c)) 45)) (tbC 0 0 (.slice none 0 0)) 45;simpa using h)
 have D0:=Hd (h.keep B0.o (Nat.le_refl _));clear h hn hl hk;go_in;go_upto_region 1 with fail;generalize ((w.alloc (.cells (tbC a b (.slice A n c)) 45)).alloc (.cells (tbC 0 0 (.slice none 0 0)) 45))=w0 at *;go_wp2_with ((with_reducible refine ax ?_ 45 (.tmp 3) ?_ V0.o ?_ _ Tryz.underlying45 ?_ ?_ ?_);(iterate 4 rfl);exact aK _ _ _);refine (jP a b pid ps A n c HN.o w0 (D0.o.more B0.o.size)).mono ?_;rintro e w1 ⟨hb1,rfl | ⟨y,hy,A2,c2,rfl,ho⟩⟩
 · have hba:=(Below.refl w1.heap.size w1).alloc (Nat.le_refl _) (.cells (psC zPc (.slice none 0 0)) 29);have R1:=Hd ((R0.o.below hb1).below hba);have B1:=Hd (aa (aa B0.o hb1) hba);clear hba hb1 V0 R0 B0 D0;go_wp2_with ((with_reducible refine ae ?_ 45 (.tmp 6) (.tmp 19) ?_ R1.o (tbC 0 0 (.slice none 0 0)) ?_ ?_ ?_ ?_ ?_ ?_);(iterate 4 rfl);(exact aK _ _ _);rfl;(exact aN _ _ _ _ _));refine bodyPost_ret (aQ (fn:=Tryz.f103) rfl _ _ (w.heap.size+1) 0 0 (.slice none 0 0) rfl (Blk.row R1.o _)) rfl ?_;exact dF R1.o B1.o (by omega) (by decide)
 · have hba:=(Below.refl w1.heap.size w1).alloc (Nat.le_refl _) (.cells (psC y.p (.slice A2 y.ds.length c2)) 29);have hbb:=aa hb1 hba;have hr1:=(R0.o.below hb1).lt;have F1:=Hd (show GtF w (w1.alloc (.cells (psC y.p (.slice A2 y.ds.length c2)) 29)) (w.heap.size+1) w1.heap.size a b A n c ps ⟨y.p,y.ds,A2,c2⟩ from ⟨V0.o.below hbb,R0.o.below hbb,Blk.new w1 _ _,(ho.low B0.o.size).below hba,D0.o.keep hbb B0.o.size,aa B0.o hbb,⟨by omega,hr1⟩,HK.o y hy⟩);clear hba hbb hb1 V0 R0 B0 D0 ho hr1;go_upto_region 2 with fail;generalize w1.alloc (.cells (psC y.p (.slice A2 y.ds.length c2)) 29)=w2 at *;generalize w1.heap.size=gp at *;have HK2:=Hd F1.o.k.2;have hgr:=F1.o.h;go_wp2_with fail;refine (uE u w2).mono ?_;rintro e w3 ⟨rfl,rfl⟩;cases hid:(decide (0≤u) && decide (u < 4294967295));case false=>
    clear hid;go_wp2_with ((with_reducible refine ae ?_ 45 (.tmp 6) (.tmp 23) ?_ F1.o.R (tbC 0 0 (.slice none 0 0)) ?_ ?_ ?_ ?_ ?_ ?_);(iterate 4 rfl);(exact aK _ _ _);rfl;(exact aN _ _ _ _ _));refine bodyPost_ret (aQ (fn:=Tryz.f103) rfl _ _ (w.heap.size+1) 0 0 (.slice none 0 0) rfl (Blk.row F1.o.R _)) rfl ?_;exact dF F1.o.R F1.o.B (by omega) (by decide)
   clear hid;have c2:=F1.o.X.cell 2;have c3:=F1.o.X.cell 3;have f2:=F1.o.X.free 2;have f3:=F1.o.X.free 3;go_wp2_with fail;refine (uF (y.p.eu == 0) y.p.ui y.p.eu u w2).mono ?_;rintro e w3 ⟨rfl,rfl⟩;have F3:=Hd ((F1.o.set (i:=2) (v:= .int .i64 (kT (y.p.eu == 0) y.p.ui y.p.eu u).1) (p' := { y.p with ui:=(kT (y.p.eu == 0) y.p.ui y.p.eu u).1 }) rfl HK2.o).set (i:=3) (v:= .int .i64 (kT (y.p.eu == 0) y.p.ui y.p.eu u).2.1) (p' := { { y.p with ui:=(kT (y.p.eu == 0) y.p.ui y.p.eu u).1 } with eu:=(kT (y.p.eu == 0) y.p.ui y.p.eu u).2.1 }) rfl HK2.o);generalize kT (y.p.eu == 0) y.p.ui y.p.eu u=cg at *;go_upto_region 8 with fail;clear F1;clear c2 f2 c3 f3;generalize (w2.setCell ⟨gp,2,none⟩ (.int .i64 cg.1)).setCell ⟨gp,3,none⟩ (.int .i64 cg.2.1)=w3 at *;generalize ({ { y.p with ui:=cg.1 } with eu:=cg.2.1 } :Pc)=p3 at *;by_cases hcg:cg.2.2=0;case neg=>
    have HCG:=Hd hcg;obtain ⟨p1,p2⟩:=aO hcg;clear hcg;go_wp2_with ((with_reducible refine ae ?_ 45 (.tmp 6) (.tmp 41) ?_ F3.o.R (tbC 0 0 (.slice none 0 0)) ?_ ?_ ?_ ?_ ?_ ?_);(iterate 4 rfl);(exact aK _ _ _);rfl;(exact aN _ _ _ _ _));refine bodyPost_ret (aQ (fn:=Tryz.f103) rfl _ _ (w.heap.size+1) 0 0 (.slice none 0 0) rfl (Blk.row F3.o.R _)) rfl ?_;exact dF F3.o.R F3.o.B (by omega) HCG.o
   have q1:=(bJ hcg).2;clear hcg;have FH:=Hd F3.o.h;go_wp2_with (first | ((with_reducible refine ax ?_ 45 (.tmp 3) ?_ F3.o.V ?_ _ Tryz.underlying45 ?_ ?_ ?_);(iterate 4 rfl);exact aK _ _ _) | ((with_reducible refine ax ?_ 29 (.tmp 8) ?_ F3.o.X ?_ _ Tryz.underlying29 ?_ ?_ ?_);(iterate 4 rfl);exact gU _ _));refine (zN a b ps A n c HN.o HL.o HK.o ⟨p3,y.ds,A2,c2⟩ F3.o.k w.heap.size w3 (F3.o.D.more F3.o.B.size) F3.o.P F3.o.B.size).mono ?_;rintro e w5 ⟨A5,n5,c5,zs,rfl,hO,hb5,_⟩;have R5:=Hd (F3.o.R.below hb5);have B5:=Hd (aa F3.o.B hb5);have O5:=Hd hO;clear hO hb5 F3;go_wp2_with ((with_reducible refine ae ?_ 45 (.tmp 6) (.tmp 45) ?_ R5.o (tbC a b (.slice A5 n5 c5)) ?_ ?_ ?_ ?_ ?_ ?_);(iterate 4 rfl);(exact aK _ _ _);rfl;(exact aN _ _ _ _ _));refine bodyPost_ret (aQ (fn:=Tryz.f103) rfl _ _ (w.heap.size+1) a b (.slice A5 n5 c5) rfl (Blk.row R5.o _)) rfl ?_;exact jK O5.o R5.o B5.o (by omega)
theorem xI (a b:Int) (ps:List Pm) (A:Option Addr) (n c:Nat) (hn:n=ps.length) (hl:n≤16) (hk:∀ x∈ps,x.Ok) (pid:Int) (u:Int) (w:World) (h:jI w w.heap.size A ps):
   Calls Tryz.prog 104 #[.agg (tbC a b (.slice A n c)), .int .i64 pid, .int .i64 u] w (TbP w):=by
 have HN:=Hd hn;have HL:=Hd hl;have HK:=Hd hk;have B0:=Hd (show Below w.heap.size w ((w.alloc (.cells (tbC a b (.slice A n c)) 45)).alloc (.cells (tbC 0 0 (.slice none 0 0)) 45)) from ((Below.refl w.heap.size w).alloc (Nat.le_refl _) _).alloc (by simp) _);have V0:=Hd ((Blk.new w (tbC a b (.slice A n c)) 45).alloc (.cells (tbC 0 0 (.slice none 0 0)) 45));have R0:=Hd (show Blk ((w.alloc (.cells (tbC a b (.slice A n c)) 45)).alloc (.cells (tbC 0 0 (.slice none 0 0)) 45)) (w.heap.size+1) 45 (tbC 0 0 (.slice none 0 0)) by
   have h:=Blk.new (w.alloc (.cells (tbC a b (.slice A n c)) 45)) (tbC 0 0 (.slice none 0 0)) 45;simpa using h)
 have D0:=Hd (h.keep B0.o (Nat.le_refl _));clear h hn hl hk;go_in;go_upto_region 1 with fail;generalize ((w.alloc (.cells (tbC a b (.slice A n c)) 45)).alloc (.cells (tbC 0 0 (.slice none 0 0)) 45))=w0 at *;go_wp2_with ((with_reducible refine ax ?_ 45 (.tmp 3) ?_ V0.o ?_ _ Tryz.underlying45 ?_ ?_ ?_);(iterate 4 rfl);exact aK _ _ _);refine (jP a b pid ps A n c HN.o w0 (D0.o.more B0.o.size)).mono ?_;rintro e w1 ⟨hb1,rfl | ⟨y,hy,A2,c2,rfl,ho⟩⟩
 · have hba:=(Below.refl w1.heap.size w1).alloc (Nat.le_refl _) (.cells (psC zPc (.slice none 0 0)) 29);have R1:=Hd ((R0.o.below hb1).below hba);have B1:=Hd (aa (aa B0.o hb1) hba);clear hba hb1 V0 R0 B0 D0;go_wp2_with ((with_reducible refine ae ?_ 45 (.tmp 6) (.tmp 19) ?_ R1.o (tbC 0 0 (.slice none 0 0)) ?_ ?_ ?_ ?_ ?_ ?_);(iterate 4 rfl);(exact aK _ _ _);rfl;(exact aN _ _ _ _ _));refine bodyPost_ret (aQ (fn:=Tryz.f104) rfl _ _ (w.heap.size+1) 0 0 (.slice none 0 0) rfl (Blk.row R1.o _)) rfl ?_;exact dF R1.o B1.o (by omega) (by decide)
 · have hba:=(Below.refl w1.heap.size w1).alloc (Nat.le_refl _) (.cells (psC y.p (.slice A2 y.ds.length c2)) 29);have hbb:=aa hb1 hba;have hr1:=(R0.o.below hb1).lt;have F1:=Hd (show GtF w (w1.alloc (.cells (psC y.p (.slice A2 y.ds.length c2)) 29)) (w.heap.size+1) w1.heap.size a b A n c ps ⟨y.p,y.ds,A2,c2⟩ from ⟨V0.o.below hbb,R0.o.below hbb,Blk.new w1 _ _,(ho.low B0.o.size).below hba,D0.o.keep hbb B0.o.size,aa B0.o hbb,⟨by omega,hr1⟩,HK.o y hy⟩);clear hba hbb hb1 V0 R0 B0 D0 ho hr1;go_upto_region 2 with fail;generalize w1.alloc (.cells (psC y.p (.slice A2 y.ds.length c2)) 29)=w2 at *;generalize w1.heap.size=gp at *;have HK2:=Hd F1.o.k.2;have hgr:=F1.o.h;go_wp2_with fail;refine (uE u w2).mono ?_;rintro e w3 ⟨rfl,rfl⟩;cases hid:(decide (0≤u) && decide (u < 4294967295));case false=>
    clear hid;go_wp2_with ((with_reducible refine ae ?_ 45 (.tmp 6) (.tmp 23) ?_ F1.o.R (tbC 0 0 (.slice none 0 0)) ?_ ?_ ?_ ?_ ?_ ?_);(iterate 4 rfl);(exact aK _ _ _);rfl;(exact aN _ _ _ _ _));refine bodyPost_ret (aQ (fn:=Tryz.f104) rfl _ _ (w.heap.size+1) 0 0 (.slice none 0 0) rfl (Blk.row F1.o.R _)) rfl ?_;exact dF F1.o.R F1.o.B (by omega) (by decide)
   clear hid;have c3:=F1.o.X.cell 3;have c4:=F1.o.X.cell 4;have c5:=F1.o.X.cell 5;have f3:=F1.o.X.free 3;have f4:=F1.o.X.free 4;have f5:=F1.o.X.free 5;go_wp2_with fail;refine (uF (y.p.eu == 0) y.p.gi y.p.eg u w2).mono ?_;rintro e w3 ⟨rfl,rfl⟩;have F3:=Hd ((F1.o.set (i:=4) (v:= .int .i64 (kT (y.p.eu == 0) y.p.gi y.p.eg u).1) (p' := { y.p with gi:=(kT (y.p.eu == 0) y.p.gi y.p.eg u).1 }) rfl HK2.o).set (i:=5) (v:= .int .i64 (kT (y.p.eu == 0) y.p.gi y.p.eg u).2.1) (p' := { { y.p with gi:=(kT (y.p.eu == 0) y.p.gi y.p.eg u).1 } with eg:=(kT (y.p.eu == 0) y.p.gi y.p.eg u).2.1 }) rfl HK2.o);generalize kT (y.p.eu == 0) y.p.gi y.p.eg u=cg at *;go_upto_region 8 with fail;clear F1;clear c3 f3 c4 f4 c5 f5;generalize (w2.setCell ⟨gp,4,none⟩ (.int .i64 cg.1)).setCell ⟨gp,5,none⟩ (.int .i64 cg.2.1)=w3 at *;generalize ({ { y.p with gi:=cg.1 } with eg:=cg.2.1 } :Pc)=p3 at *;by_cases hcg:cg.2.2=0;case neg=>
    have HCG:=Hd hcg;obtain ⟨p1,p2⟩:=aO hcg;clear hcg;go_wp2_with ((with_reducible refine ae ?_ 45 (.tmp 6) (.tmp 41) ?_ F3.o.R (tbC 0 0 (.slice none 0 0)) ?_ ?_ ?_ ?_ ?_ ?_);(iterate 4 rfl);(exact aK _ _ _);rfl;(exact aN _ _ _ _ _));refine bodyPost_ret (aQ (fn:=Tryz.f104) rfl _ _ (w.heap.size+1) 0 0 (.slice none 0 0) rfl (Blk.row F3.o.R _)) rfl ?_;exact dF F3.o.R F3.o.B (by omega) HCG.o
   have q1:=(bJ hcg).2;clear hcg;have FH:=Hd F3.o.h;go_wp2_with (first | ((with_reducible refine ax ?_ 45 (.tmp 3) ?_ F3.o.V ?_ _ Tryz.underlying45 ?_ ?_ ?_);(iterate 4 rfl);exact aK _ _ _) | ((with_reducible refine ax ?_ 29 (.tmp 8) ?_ F3.o.X ?_ _ Tryz.underlying29 ?_ ?_ ?_);(iterate 4 rfl);exact gU _ _));refine (zN a b ps A n c HN.o HL.o HK.o ⟨p3,y.ds,A2,c2⟩ F3.o.k w.heap.size w3 (F3.o.D.more F3.o.B.size) F3.o.P F3.o.B.size).mono ?_;rintro e w5 ⟨A5,n5,c5,zs,rfl,hO,hb5,_⟩;have R5:=Hd (F3.o.R.below hb5);have B5:=Hd (aa F3.o.B hb5);have O5:=Hd hO;clear hO hb5 F3;go_wp2_with ((with_reducible refine ae ?_ 45 (.tmp 6) (.tmp 45) ?_ R5.o (tbC a b (.slice A5 n5 c5)) ?_ ?_ ?_ ?_ ?_ ?_);(iterate 4 rfl);(exact aK _ _ _);rfl;(exact aN _ _ _ _ _));refine bodyPost_ret (aQ (fn:=Tryz.f104) rfl _ _ (w.heap.size+1) a b (.slice A5 n5 c5) rfl (Blk.row R5.o _)) rfl ?_;exact jK O5.o R5.o B5.o (by omega)
structure WkA (w:World) (base:Nat) (u:Wu) (ps gs:List ByteArray):Prop where
 P:cK w base u.P ps
 G:cK w base u.G gs
 np:u.np=ps.length
 ng:u.ng=gs.length
 lp:ps.length≤jR u.z
 hp:∀ s∈ps,s.size≤128
 hg:∀ s∈gs,s.size≤64
 ck:mR u.z u.a ps gs=0
theorem WkA.keep {w w' :World} {base:Nat} {u:Wu} {ps gs:List ByteArray} (h:WkA w base u ps gs) (hb:Below base w w'):WkA w' base u ps gs:=⟨h.P.keep hb (Nat.le_refl _),h.G.keep hb (Nat.le_refl _),h.np,h.ng,h.lp,h.hp,h.hg,h.ck⟩
theorem gG {z:Int} {a:Nat→Int} {ps gs:List ByteArray} (h:mR z a ps gs=0):ps.length=(eT z).kL∧(eT z).least≤gs.length∧gs.length≤(eT z).most∧jb ps 128=false∧jb gs 64=false∧(eT z).name.size≠0:=by
 unfold mR at h;split at h
 · cases h
 · split at h
   · cases h
   · split at h
     · cases h
     · split at h
       · cases h
       · rename_i h1 h2 h3 h4;simp only [not_or,Bool.not_eq_true,Decidable.not_not,Nat.not_lt] at h3 h4;exact ⟨h3.1,h3.2.1,h3.2.2,h4.1,h4.2,h1⟩
theorem oK (ad:Addr):ad.add 0=ad:=by unfold Addr.add;rw [if_pos rfl]
def BfP (w:World) (e:Ending) (w' :World):Prop:=(∃ k:Int,e= .returned (.int .i64 k))∧Below w.heap.size w w'
theorem Ak (base gw m:Nat) (u:Wu) (v:Wv) (ds:List Dm) (ms:List Mt) (fs:List Fo) (ps gs:List ByteArray) (w:World) (h:WkS w base gw u v ds ms fs m) (ha:WkA w base u ps gs):
  Calls Tryz.prog 33 #[.pointer (some ⟨gw,0,none⟩)] w (BfP w):=by
 have HW:=Hd h;have HA:=Hd ha;have S0:=Hd (RdW.new w 30 #[.int .i64 (u.a 0), .int .i64 (u.a 1), .int .i64 (u.a 2), .int .i64 (u.a 3)]);have x20:w.cell? ⟨gw,20,none⟩=some (.int .i64 (u.a 0)):=h.X.cell 20;have x21:w.cell? ⟨gw,21,none⟩=some (.int .i64 (u.a 1)):=h.X.cell 21;have x22:w.cell? ⟨gw,22,none⟩=some (.int .i64 (u.a 2)):=h.X.cell 22;have x23:w.cell? ⟨gw,23,none⟩=some (.int .i64 (u.a 3)):=h.X.cell 23;clear h ha;go_in;go_upto_region 2 with fail;clear x20 x21 x22 x23;generalize w.alloc (.cells #[.int .i64 (u.a 0), .int .i64 (u.a 1), .int .i64 (u.a 2), .int .i64 (u.a 3)] 30)=w0 at *;have W0:=Hd (HW.o.below S0.o.b);have x19:w0.cell? ⟨gw,19,none⟩=some (.int .i64 u.z):=W0.o.X.cell 19;have y0:w0.cell? ⟨w.heap.size,0,none⟩=some (.int .i64 (u.a 0)):=S0.o.x.cell 0;have y1:w0.cell? ⟨w.heap.size,1,none⟩=some (.int .i64 (u.a 1)):=S0.o.x.cell 1;by_cases hz:u.z=6;case pos=>
  rw [hz] at x19;by_cases h1:u.a 0 < 0;case pos=>
   go_wp2_with fail;go_ret;exact ⟨⟨_,rfl⟩,S0.o.b⟩
  case neg=>
   by_cases h2:63 < u.a 0;case pos=>
    go_wp2_with fail;go_ret;exact ⟨⟨_,rfl⟩,S0.o.b⟩
   case neg=>
    cases h3:(bits BinOp.and IntKind.i64 (u.a 0) 3 == 0) with
    | true=>
     go_wp2_with fail;go_ret;exact ⟨⟨_,rfl⟩,S0.o.b⟩
    | false=>
     go_wp2_with fail;refine (Af (u.a 1) w0).mono ?_;rintro e w2 ⟨⟨b,rfl⟩,rfl⟩;cases b with
     | false=>
      go_wp2_with fail;go_ret;exact ⟨⟨_,rfl⟩,S0.o.b⟩
     | true=>
      have x17:w0.cell? ⟨gw,17,none⟩=some (.slice u.O u.no u.co):=W0.o.X.cell 17;by_cases h4:(8:Int)≤(u.no:Int);case pos=>
       go_wp2_with fail;go_ret;exact ⟨⟨_,rfl⟩,S0.o.b⟩
      case neg=>
       go_wp2_with fail;go_ret;exact ⟨⟨_,rfl⟩,S0.o.b⟩
 case neg=>
  have p6:=(aO hz).1;clear hz;by_cases hz:u.z=9;case pos=>
   rw [hz] at x19;have hz9:=(gG HA.o.ck).2.1;rw [hz,show (eT 9).least=1 by decide+kernel] at hz9;have hg0:0 < gs.length:=(by omega);obtain ⟨ad,eG,hab,hcx⟩:=HA.o.G 0 hg0;have HS:=Hd (HA.o.hg _ (List.getElem_mem hg0));generalize gs[0]'hg0=s at *;have hcy:w0.cell? ad=some (.string s):=(S0.o.b.cell (by have:=HW.o.big;have h3:=hab;omega)).trans (oK ad ▸ hcx);have x25:w0.cell? ⟨gw,25,none⟩=some (.slice (some ad) u.ng u.cg):=(by rw [← eG];exact W0.o.X.cell 25);have g1:(0:Int) < (u.ng:Int):=(by rw [HA.o.ng];omega);clear hcx eG hab hz9;cases he:s.toList.isEmpty with
   | true=>
    go_wp2_with fail;go_ret;exact ⟨⟨_,rfl⟩,S0.o.b⟩
   | false=>
    go_wp2_with fail;go_loopw [4] (fun i wr=>∃ k:Nat,k≤s.size∧i= .int .i64 k∧wr=w0) (fun i _=>s.size - (intOf i).toNat);case atStart=>exact ⟨0,Nat.zero_le _,rfl,rfl⟩
    case round=>
     obtain ⟨k,hk,rfl,rfl⟩:=hrel;have WK:=Hd (dB hk (by have:=HS.o;omega));by_cases hlt:k < s.size;case neg=>
      have k1:¬ (k:Int) < (s.size:Int):=(by omega);go_wp2_with fail;go_ret;exact ⟨⟨_,rfl⟩,S0.o.b⟩
     case pos=>
      have k1:(k:Int) < (s.size:Int):=(by omega);have k2:(0:Int)≤(k:Int):=(by omega);cases hz:((s[k].toNat:Int) == 0);case true=>
       go_wp2_with fail;go_ret;exact ⟨⟨_,rfl⟩,S0.o.b⟩
      case false=>
       obtain ⟨wk1,wk2⟩:=WK.o;go_wp2_with fail;clear wk1 wk2;go_roundw;case rel=>exact ⟨k+1,hlt,rfl,by first | rfl | trivial⟩
       case measure=>exact aZ hlt _ rfl
  case neg=>
   have p9:=(aO hz).1;clear hz;by_cases hz:u.z=11;case pos=>
    rw [hz] at x19;go_wp2_with fail;refine (Af (u.a 0) w0).mono ?_;rintro e w2 ⟨⟨b,rfl⟩,rfl⟩;cases b with
    | false=>
     go_wp2_with fail;go_ret;exact ⟨⟨_,rfl⟩,S0.o.b⟩
    | true=>
     go_wp2_with fail;go_ret;exact ⟨⟨_,rfl⟩,S0.o.b⟩
   case neg=>
    have p11:=(aO hz).1;clear hz;by_cases hz:u.z=14;case pos=>
     rw [hz] at x19;go_wp2_with fail;refine (Af (u.a 0) w0).mono ?_;rintro e w2 ⟨⟨b,rfl⟩,rfl⟩;cases b with
     | false=>
      go_wp2_with fail;go_ret;exact ⟨⟨_,rfl⟩,S0.o.b⟩
     | true=>
      go_wp2_with fail;go_ret;exact ⟨⟨_,rfl⟩,S0.o.b⟩
    case neg=>
     have p14:=(aO hz).1;clear hz;by_cases hz:u.z=15;case pos=>
      rw [hz] at x19;by_cases h1:u.a 0 < 0;case pos=>
       go_wp2_with fail;go_ret;exact ⟨⟨_,rfl⟩,S0.o.b⟩
      case neg=>
       by_cases h2:4294967295 < u.a 0;case pos=>
        go_wp2_with fail;go_ret;exact ⟨⟨_,rfl⟩,S0.o.b⟩
       case neg=>
        by_cases h3:u.a 1 < 0;case pos=>
         go_wp2_with fail;go_ret;exact ⟨⟨_,rfl⟩,S0.o.b⟩
        case neg=>
         by_cases h4:4294967295 < u.a 1;case pos=>
          go_wp2_with fail;go_ret;exact ⟨⟨_,rfl⟩,S0.o.b⟩
         case neg=>
          go_wp2_with fail;go_ret;exact ⟨⟨_,rfl⟩,S0.o.b⟩
     case neg=>
      have p15:=(aO hz).1;clear hz;by_cases hz:u.z=17;case pos=>
       rw [hz] at x19;have x8:w0.cell? ⟨gw,8,none⟩=some (.int .i64 u.p.eu):=W0.o.X.cell 8;cases h1:(u.p.eu == 0) with
       | true=>
        go_wp2_with fail;go_ret;exact ⟨⟨_,rfl⟩,S0.o.b⟩
       | false=>
        go_wp2_with fail;go_ret;exact ⟨⟨_,rfl⟩,S0.o.b⟩
      case neg=>
       have p17:=(aO hz).1;clear hz;by_cases hz:u.z=21;case pos=>
        rw [hz] at x19;by_cases h1:u.a 0 < 0;case pos=>
         go_wp2_with fail;go_ret;exact ⟨⟨_,rfl⟩,S0.o.b⟩
        case neg=>
         go_wp2_with fail;go_ret;exact ⟨⟨_,rfl⟩,S0.o.b⟩
       case neg=>
        have p21:=(aO hz).1;clear hz;go_wp2_with fail;go_ret;exact ⟨⟨_,rfl⟩,S0.o.b⟩
theorem kI {P:Program} {ops:Array Oper} {rest:List Oper} {o:Oper} {a:Act} {w:World} {Q:Exit→Act→World→Prop} (hgd:o.guard=none) (t:TypeId) (parts:Array (Nat×Operand)) (ho:o.op= .build t parts)
  (cells:Array Value) (hf:P.built t (parts.map fun (i,x)=>(i,a.eval x)).toList=some cells) (h:wpList P ops Q rest (a.put o.dst (.agg cells)) w):wpList P ops Q (o :: rest) a w:=
 wpList_plain hgd fun _ hK=>wp_build t parts ho (by rw [hf];rfl) (by rw [hf];exact hK _ _ h)
theorem Al {fn:Func} {p:Nat} (h:fn.results=#[.cell p 77]) (tmps:Array Value) (w:World) (g:Nat) (y:Itm) (r:aS) (hp:tmps.getD p undef= .pointer (some ⟨g,0,none⟩)) (hg:Blk w g 77 (aG y r)):
  (results fn tmps).run Tryz.prog w= .ok (.agg (aG y r)) w:=
 results_cell_row h tmps w g _ (aG y r) (0,0) _ hp hg Tryz.underlying77 rfl (gB y r)
def kV (gv:ByteArray) (x:Fo) (nd:Nd) (pm:Int):Itm×aS:=(⟨x.fd,x.fi,nd.uid,nd.gid,nd.kind⟩,⟨gv,x.pa,x.dd,x.di,x.nm,1,nd.mode,pm⟩)
theorem xP (gv:ByteArray) (x:Fo) (nd:Nd) (pm:Int):Tryz.prog.built 77 [(0, .string gv),(1, .string x.pa),(2, .agg #[.int .i64 x.dd, .int .i64 x.di]),(3, .string x.nm),(4, .agg #[.int .i64 x.fd, .int .i64 x.fi]),(5, .int .i64 1),(6, .int .i64 nd.kind),(7, .int .i64 nd.mode),(8, .int .i64 nd.uid),(9, .int .i64 nd.gid),(10, .int .i64 pm)]=some (aG (kV gv x nd pm).1 (kV gv x nd pm).2):=by
 kernel_rfl
theorem vL (gv:ByteArray) (pm:Int):Tryz.prog.built 77 [(0, .string gv),(5, .int .i64 1),(10, .int .i64 pm)]=some (aG ⟨0,0,0,0,0⟩ ⟨gv,⟨#[]⟩,0,0,⟨#[]⟩,1,0,pm⟩):=by
 kernel_rfl
def Gc (gv:ByteArray) (x:Fo) (w:World) (e:Ending) (w' :World):Prop:=∃ (y:Itm) (r:aS),e= .returned (.agg (aG y r))∧r.gv=gv∧r.pa=x.pa∧r.nm=x.nm∧Below w.heap.size w w'
theorem Aq (gv:ByteArray) (pm:Int) (x:Fo) (ds:List Dm) (A:Option Addr) (n c:Nat) (hn:n=ds.length) (Am:Option Addr) (nm cm:Nat) (w:World) (h:dO w w.heap.size A ds):
  Calls Tryz.prog 57 #[.agg #[slV A n c,slV Am nm cm], .string gv, .int .i64 pm, .agg (foC x)] w (Gc gv x w):=by
 have HN:=Hd hn;have s1:(w.alloc (.cells #[slV A n c,slV Am nm cm] 42)).heap.size=w.heap.size+1:=by simp
 have s2:((w.alloc (.cells #[slV A n c,slV Am nm cm] 42)).alloc (.cells (foC x) 117)).heap.size=w.heap.size+1+1:=by simp
 have b2:=Blk.new (w.alloc (.cells #[slV A n c,slV Am nm cm] 42)) (foC x) 117;rw [s1] at b2;have b3:=Blk.new ((w.alloc (.cells #[slV A n c,slV Am nm cm] 42)).alloc (.cells (foC x) 117)) ry 77;rw [s2] at b3;have BB:=Hd (show Below w.heap.size w (((w.alloc (.cells #[slV A n c,slV Am nm cm] 42)).alloc (.cells (foC x) 117)).alloc (.cells ry 77)) from (((Below.refl _ _).alloc (Nat.le_refl _) _).alloc (by rw [s1];omega) _).alloc (by rw [s2];omega) _);have V0:=Hd (show Blk (((w.alloc (.cells #[slV A n c,slV Am nm cm] 42)).alloc (.cells (foC x) 117)).alloc (.cells ry 77)) w.heap.size 42 #[slV A n c,slV Am nm cm] from ((Blk.new w #[slV A n c,slV Am nm cm] 42).alloc _).alloc _);have X0:=Hd (show Blk (((w.alloc (.cells #[slV A n c,slV Am nm cm] 42)).alloc (.cells (foC x) 117)).alloc (.cells ry 77)) (w.heap.size+1) 117 (foC x) from b2.alloc _);have R0:=Hd b3;have HF:=Hd (h.below BB.o);clear h hn b2 b3 s1 s2;go_in;go_upto_region 1 with fail;generalize ((w.alloc (.cells #[slV A n c,slV Am nm cm] 42)).alloc (.cells (foC x) 117)).alloc (.cells ry 77)=w0 at *;have v0:=V0.o.cell 0;have x3:w0.cell? ⟨w.heap.size+1,3,none⟩=some (.int .i64 x.fd):=X0.o.cell 3;have x4:w0.cell? ⟨w.heap.size+1,4,none⟩=some (.int .i64 x.fi):=X0.o.cell 4;go_wp2_with fail;refine (bL x.fd x.fi ds A n c HN.o w0 HF.o).mono ?_;intro e w1 hp;obtain ⟨nd,An,nn,nc,bb,rfl,hb⟩:=hp.any;have hba:=aa hb ((Below.refl w1.heap.size w1).alloc (Nat.le_refl _) (.cells (ndC nd (.slice An nn nc)) 124));have X1:=Hd (X0.o.below hba);have R1:=Hd (R0.o.below hba);have N1:=Hd (Blk.new w1 (ndC nd (.slice An nn nc)) 124);have B1:=Hd (aa BB.o hba);clear hba hb V0 X0 R0 BB HF v0 x3 x4;go_upto_region 2 with fail;generalize w1.alloc (.cells (ndC nd (.slice An nn nc)) 124)=w2 at *;generalize w1.heap.size=gn at *;have x0:w2.cell? ⟨w.heap.size+1,0,none⟩=some (.int .i64 x.dd):=X1.o.cell 0;have x1:w2.cell? ⟨w.heap.size+1,1,none⟩=some (.int .i64 x.di):=X1.o.cell 1;have x2:w2.cell? ⟨w.heap.size+1,2,none⟩=some (.string x.nm):=X1.o.cell 2;have x3:w2.cell? ⟨w.heap.size+1,3,none⟩=some (.int .i64 x.fd):=X1.o.cell 3;have x4:w2.cell? ⟨w.heap.size+1,4,none⟩=some (.int .i64 x.fi):=X1.o.cell 4;have x7:w2.cell? ⟨w.heap.size+1,7,none⟩=some (.string x.pa):=X1.o.cell 7;have n1:w2.cell? ⟨gn,1,none⟩=some (.int .i64 nd.kind):=N1.o.cell 1;have n2:w2.cell? ⟨gn,2,none⟩=some (.int .i64 nd.mode):=N1.o.cell 2;have n3:w2.cell? ⟨gn,3,none⟩=some (.int .i64 nd.uid):=N1.o.cell 3;have n4:w2.cell? ⟨gn,4,none⟩=some (.int .i64 nd.gid):=N1.o.cell 4;go_wp2_with (first | ((with_reducible refine kI ?_ 77 _ ?_ (aG (kV gv x nd pm).1 (kV gv x nd pm).2) ?_ ?_);rfl;rfl;(go_simp;exact xP gv x nd pm)) | ((with_reducible refine ae ?_ 77 (.tmp 8) (.tmp 37) ?_ R1.o (aG (kV gv x nd pm).1 (kV gv x nd pm).2) ?_ ?_ ?_ ?_ ?_ ?_);(iterate 4 rfl);(exact gB _ _);rfl;(exact mM _ _)));refine bodyPost_ret (Al (fn:=Tryz.f57) rfl _ _ (w.heap.size+1+1) (kV gv x nd pm).1 (kV gv x nd pm).2 rfl (Blk.row R1.o _)) rfl ?_;exact ⟨(kV gv x nd pm).1,(kV gv x nd pm).2,rfl,rfl,rfl,rfl,ai B1.o (by omega) _⟩
theorem Aw (a b:Int) (ps:List Pm) (A:Option Addr) (n c:Nat) (hn:n=ps.length) (hl:n≤16) (hk:∀ x∈ps,x.Ok) (pid:Int) (u:Int) (w:World) (h:jI w w.heap.size A ps):
   Calls Tryz.prog 105 #[.agg (tbC a b (.slice A n c)), .int .i64 pid, .int .i64 u] w (TbP w):=by
 have HN:=Hd hn;have HL:=Hd hl;have HK:=Hd hk;have B0:=Hd (show Below w.heap.size w ((w.alloc (.cells (tbC a b (.slice A n c)) 45)).alloc (.cells (tbC 0 0 (.slice none 0 0)) 45)) from ((Below.refl w.heap.size w).alloc (Nat.le_refl _) _).alloc (by simp) _);have V0:=Hd ((Blk.new w (tbC a b (.slice A n c)) 45).alloc (.cells (tbC 0 0 (.slice none 0 0)) 45));have R0:=Hd (show Blk ((w.alloc (.cells (tbC a b (.slice A n c)) 45)).alloc (.cells (tbC 0 0 (.slice none 0 0)) 45)) (w.heap.size+1) 45 (tbC 0 0 (.slice none 0 0)) by
   have h:=Blk.new (w.alloc (.cells (tbC a b (.slice A n c)) 45)) (tbC 0 0 (.slice none 0 0)) 45;simpa using h)
 have D0:=Hd (h.keep B0.o (Nat.le_refl _));clear h hn hl hk;go_in;go_upto_region 1 with fail;generalize ((w.alloc (.cells (tbC a b (.slice A n c)) 45)).alloc (.cells (tbC 0 0 (.slice none 0 0)) 45))=w0 at *;go_wp2_with ((with_reducible refine ax ?_ 45 (.tmp 3) ?_ V0.o ?_ _ Tryz.underlying45 ?_ ?_ ?_);(iterate 4 rfl);exact aK _ _ _);refine (jP a b pid ps A n c HN.o w0 (D0.o.more B0.o.size)).mono ?_;rintro e w1 ⟨hb1,rfl | ⟨y,hy,A2,c2,rfl,ho⟩⟩
 · have hba:=(Below.refl w1.heap.size w1).alloc (Nat.le_refl _) (.cells (psC zPc (.slice none 0 0)) 29);have R1:=Hd ((R0.o.below hb1).below hba);have B1:=Hd (aa (aa B0.o hb1) hba);clear hba hb1 V0 R0 B0 D0;go_wp2_with ((with_reducible refine ae ?_ 45 (.tmp 6) (.tmp 19) ?_ R1.o (tbC 0 0 (.slice none 0 0)) ?_ ?_ ?_ ?_ ?_ ?_);(iterate 4 rfl);(exact aK _ _ _);rfl;(exact aN _ _ _ _ _));refine bodyPost_ret (aQ (fn:=Tryz.f105) rfl _ _ (w.heap.size+1) 0 0 (.slice none 0 0) rfl (Blk.row R1.o _)) rfl ?_;exact dF R1.o B1.o (by omega) (by decide)
 · have hba:=(Below.refl w1.heap.size w1).alloc (Nat.le_refl _) (.cells (psC y.p (.slice A2 y.ds.length c2)) 29);have hbb:=aa hb1 hba;have hr1:=(R0.o.below hb1).lt;have F1:=Hd (show GtF w (w1.alloc (.cells (psC y.p (.slice A2 y.ds.length c2)) 29)) (w.heap.size+1) w1.heap.size a b A n c ps ⟨y.p,y.ds,A2,c2⟩ from ⟨V0.o.below hbb,R0.o.below hbb,Blk.new w1 _ _,(ho.low B0.o.size).below hba,D0.o.keep hbb B0.o.size,aa B0.o hbb,⟨by omega,hr1⟩,HK.o y hy⟩);clear hba hbb hb1 V0 R0 B0 D0 ho hr1;go_upto_region 2 with fail;generalize w1.alloc (.cells (psC y.p (.slice A2 y.ds.length c2)) 29)=w2 at *;generalize w1.heap.size=gp at *;have HK2:=Hd F1.o.k.2;have hgr:=F1.o.h;go_wp2_with fail;refine (uE u w2).mono ?_;rintro e w3 ⟨rfl,rfl⟩;cases hid:(decide (0≤u) && decide (u < 4294967295));case false=>
     clear hid;go_wp2_with ((with_reducible refine ae ?_ 45 (.tmp 6) (.tmp 23) ?_ F1.o.R (tbC 0 0 (.slice none 0 0)) ?_ ?_ ?_ ?_ ?_ ?_);(iterate 4 rfl);(exact aK _ _ _);rfl;(exact aN _ _ _ _ _));refine bodyPost_ret (aQ (fn:=Tryz.f105) rfl _ _ (w.heap.size+1) 0 0 (.slice none 0 0) rfl (Blk.row F1.o.R _)) rfl ?_;exact dF F1.o.R F1.o.B (by omega) (by decide)
   clear hid;have c6:=F1.o.X.cell 6;have c3:=F1.o.X.cell 3;go_upto_region 6 with fail;go_cut [31] (fun v wx=>(∃ bb:Bool,v= .bool bb)∧w2=wx);case first=>
     by_cases hau:y.p.au=4294967295;case pos=>
       have q1:=(bJ hau).2;go_wp2_with fail;go_meet;exact ⟨⟨_,rfl⟩,rfl⟩
     case neg=>
       have q1:=(aO hau).2;go_wp2_with fail;go_meet;exact ⟨⟨_,rfl⟩,rfl⟩
   case rest=>
   obtain ⟨⟨bb,rfl⟩,rfl⟩:=hcut;clear c6 c3;cases bb;case true=>
     go_wp2_with ((with_reducible refine ae ?_ 45 (.tmp 6) (.tmp 32) ?_ F1.o.R (tbC 0 0 (.slice none 0 0)) ?_ ?_ ?_ ?_ ?_ ?_);(iterate 4 rfl);(exact aK _ _ _);rfl;(exact aN _ _ _ _ _));refine bodyPost_ret (aQ (fn:=Tryz.f105) rfl _ _ (w.heap.size+1) 0 0 (.slice none 0 0) rfl (Blk.row F1.o.R _)) rfl ?_;exact dF F1.o.R F1.o.B (by omega) (by decide)
   have v1:=F1.o.V.cell 1;by_cases hb9:b=1073741824;case pos=>
     have q2:=(bJ hb9).1;clear hb9;go_wp2_with ((with_reducible refine ae ?_ 45 (.tmp 6) (.tmp 36) ?_ F1.o.R (tbC 0 0 (.slice none 0 0)) ?_ ?_ ?_ ?_ ?_ ?_);(iterate 4 rfl);(exact aK _ _ _);rfl;(exact aN _ _ _ _ _));refine bodyPost_ret (aQ (fn:=Tryz.f105) rfl _ _ (w.heap.size+1) 0 0 (.slice none 0 0) rfl (Blk.row F1.o.R _)) rfl ?_;exact dF F1.o.R F1.o.B (by omega) (by decide)
   have q2:=(aO hb9).1;clear hb9;go_upto_region 10 with fail;clear v1 q2;refine wp_region_held_drew (S:=(fun W=>Blk W w.heap.size 45 (tbC a b (.slice A n c)))) (by kernel_rfl) F1.o.V (fun hHeld=>?_);have F2:=Hd (F1.o.below (Below.refl w2.heap.size w2).drew);clear F1;generalize w2.drew=w2 at *;refine tk hHeld 0 ?_ ?_ (tk hHeld 1 ?_ ?_ (tk hHeld 2 ?_ ?_ (tk hHeld 3 ?_ ?_ ?_)));iterate 4
     rotate_left
     · intro W hSw;have v1:=hSw.cell 1;go_simp;try (with_reducible rfl)
   have F3:=Hd (F2.o.set (i:=6) (v:= .int .i64 u) (p' := { y.p with au:=u }) rfl HK2.o);have F4:=Hd (F3.o.set (i:=7) (v:= .int .i64 b) (p' := { { y.p with au:=u } with se:=b }) rfl HK2.o);have c6:=F2.o.X.cell 6;have f6:=F2.o.X.free 6;have c7:=F3.o.X.cell 7;have f7:=F3.o.X.free 7;refine rdy1 4 (fun K hK=>?_);go_simp;refine hK.o _ _ F3.o.V (fun hHeld=>?_);clear hK K;refine tk hHeld 5 ?_ ?_ ?_;rotate_left
   · intro W hSw;go_simp;try (with_reducible rfl)
   refine rdy1 6 (fun K hK=>?_);go_simp;refine hK.o _ _ F4.o.V (fun hHeld=>?_);clear hK K;clear c6 f6 c7 f7 F2 F3;refine wpAnyH_done (by kernel_rfl) ?_ _;generalize (w2.setCell ⟨gp,6,none⟩ (.int .i64 u)).setCell ⟨gp,7,none⟩ (.int .i64 b)=w3 at *;generalize ({ { y.p with au:=u } with se:=b } :Pc)=p3 at *;have FH:=Hd F4.o.h;go_wp2_with (first | ((with_reducible refine ax ?_ 45 (.tmp 3) ?_ F4.o.V ?_ _ Tryz.underlying45 ?_ ?_ ?_);(iterate 4 rfl);exact aK _ _ _) | ((with_reducible refine ax ?_ 29 (.tmp 8) ?_ F4.o.X ?_ _ Tryz.underlying29 ?_ ?_ ?_);(iterate 4 rfl);exact gU _ _));refine (zN a b ps A n c HN.o HL.o HK.o ⟨p3,y.ds,A2,c2⟩ F4.o.k w.heap.size w3 (F4.o.D.more F4.o.B.size) F4.o.P F4.o.B.size).mono ?_;rintro e w5 ⟨A5,n5,c5,zs,rfl,hO,hb5,_⟩;have R5:=Hd (F4.o.R.below hb5);have B5:=Hd (aa F4.o.B hb5);have O5:=Hd hO;clear hO hb5 F4;have hba:=(Below.refl w5.heap.size w5).alloc (Nat.le_refl _) (.cells (tbC a b (.slice A5 n5 c5)) 45);have R6:=Hd (R5.o.below hba);have B6:=Hd (aa B5.o hba);have O6:=Hd (O5.o.below hba);have G6:=Hd (Blk.new w5 (tbC a b (.slice A5 n5 c5)) 45);have hr5:=R5.o.lt;have hb5:=B5.o.size;clear hba R5 B5 O5;go_upto_region 12 with fail;generalize w5.alloc (.cells (tbC a b (.slice A5 n5 c5)) 45)=w6 at *;generalize w5.heap.size=go at *;have c1:=G6.o.cell 1;have f1:=G6.o.free 1;go_upto_region 13 with fail;clear c1 f1;have G7:=Hd (show Blk (w6.setCell ⟨go,1,none⟩ (.int .i64 (wrap64 (b+1)))) go 45 (tbC a (wrap64 (b+1)) (.slice A5 n5 c5)) from G6.o.put 1 _);have R7:=Hd (R6.o.ag (p:=⟨go,1,none⟩) (.int .i64 (wrap64 (b+1))) (by show w.heap.size+1≠go;omega));have B7:=Hd (B6.o.setCell (p:=⟨go,1,none⟩) (by show w.heap.size≤go;omega) (.int .i64 (wrap64 (b+1))));have O7:=Hd (O6.o.far (av w6 go 1 (.int .i64 (wrap64 (b+1)))) (fun q e=>by injection e with e;subst e;exact O6.o.blk G6.o (by decide) (by decide)));clear G6 R6 B6 O6;generalize wrap64 (b+1)=b7 at *;generalize w6.setCell ⟨go,1,none⟩ (.int .i64 b7)=w7 at *;go_wp2_with (first | ((with_reducible refine ax ?_ 45 (.tmp 10) ?_ G7.o ?_ _ Tryz.underlying45 ?_ ?_ ?_);(iterate 4 rfl);exact aK _ _ _) | ((with_reducible refine ae ?_ 45 (.tmp 6) (.tmp 49) ?_ R7.o (tbC a b7 (.slice A5 n5 c5)) ?_ ?_ ?_ ?_ ?_ ?_);(iterate 4 rfl);(exact aK _ _ _);rfl;(exact aN _ _ _ _ _)));refine bodyPost_ret (aQ (fn:=Tryz.f105) rfl _ _ (w.heap.size+1) a b7 (.slice A5 n5 c5) rfl (Blk.row R7.o _)) rfl ?_;exact jK O7.o R7.o B7.o (by omega)
structure Sy where
 A:Option Addr
 n:Nat
 c:Nat
 Am:Option Addr
 nm:Nat
 cm:Nat
 ta:Int
 tb:Int
 At:Option Addr
 nt:Nat
 ct:Nat
abbrev syC (s:Sy):Array Value:=#[.slice s.A s.n s.c, .slice s.Am s.nm s.cm, .int .i64 s.ta, .int .i64 s.tb, .slice s.At s.nt s.ct]
abbrev syZ:Array Value:=#[.slice none 0 0, .slice none 0 0, .int .i64 0, .int .i64 0, .slice none 0 0]
theorem gL (s:Sy):(Tryz.prog.info? 47).map (·.size)=some (syC s).size:=by show _=some 5;kernel_rfl
theorem fD (s:Sy):(syC s).all (·.oneCell')=true:=by simp [Value.oneCell']
structure fG (w:World) (base:Nat) (s:Sy) (ds:List Dm) (ms:List Mt) (ps:List Pm):Prop where
 fo:aD w base (.slice s.A s.n s.c) ds
 mo:ay EMt w base (.slice s.Am s.nm s.cm) ms
 so:SOk (ds.map Dm.dv) ms
 tb:aJ w base (.slice s.At s.nt s.ct) ps
def SyO (w:World) (base:Nat) (s:Sy):Prop:=∃ ds ms ps,fG w base s ds ms ps
section
variable {w w' :World} {base:Nat} {s:Sy} {ds:List Dm} {ms:List Mt} {ps:List Pm}
theorem fG.below (h:fG w base s ds ms ps) (hb:Below w.heap.size w w'):fG w' base s ds ms ps:=⟨h.fo.below hb,h.mo.below hb,h.so,h.tb.below hb⟩
theorem SyO.below (h:SyO w base s) (hb:Below w.heap.size w w'):SyO w' base s:=by
 obtain ⟨ds,ms,ps,h⟩:=h;exact ⟨ds,ms,ps,h.below hb⟩
theorem fG.low (h:fG w base s ds ms ps) {b:Nat} (hb:b≤base):fG w b s ds ms ps:=⟨h.fo.low hb,h.mo.low hb,h.so,h.tb.low hb⟩
theorem SyO.low (h:SyO w base s) {b:Nat} (hb:b≤base):SyO w b s:=by
 obtain ⟨ds,ms,ps,h⟩:=h;exact ⟨ds,ms,ps,h.low hb⟩
theorem fG.few (h:fG w base s ds ms ps):s.nm=ms.length∧s.nm≤2∧s.n=ds.length:=by
 have h1:=(dG h.mo).1;have h2:=h.so.2.few h.so.1.2.1;exact ⟨h1,by omega,h.fo.rT.2⟩
theorem fG.files (h:fG w base s ds ms ps):dO w w.heap.size s.A ds:=h.fo.rT.1
theorem fG.aW (h:fG w base s ds ms ps):AtE EMt w w.heap.size s.Am ms:=aT h.mo
theorem fG.nt (h:fG w base s ds ms ps):s.nt=ps.length∧s.nt≤16:=by
 have h1:=h.tb.at'.1;have h2:=h.tb.few;exact ⟨h1,by omega⟩
theorem fG.far (h:fG w base s ds ms ps) {k:Nat} {t:TypeId} {cs:Array Value} (hg:w.grownBy w' (some k)) (hk:Blk w k t cs) (ht:t ∉ oz):fG w' base s ds ms ps:=
 ⟨h.fo.kG hk hg (iK (by decide) ht) (iK (by decide) ht) (iK (by decide) ht),h.mo.far hg (fun q e r=>by injection r with r;subst r;exact aC h.mo hk (iK (by decide) ht) e),h.so,h.tb.far hg (fun q e=>by injection e with e;subst e;exact h.tb.blk hk (iK (by decide) ht) (iK (by decide) ht))⟩
theorem SyO.far (h:SyO w base s) {k:Nat} {t:TypeId} {cs:Array Value} (hg:w.grownBy w' (some k)) (hk:Blk w k t cs) (ht:t ∉ oz):SyO w' base s:=by
 obtain ⟨ds,ms,ps,h⟩:=h;exact ⟨ds,ms,ps,h.far hg hk ht⟩
theorem SyO.src (h:SyO w base s) {g:Nat} (hl:g < base) (hg:w.grownBy w' (some g)):SyO w' base s:=by
 obtain ⟨ds,ms,ps,h⟩:=h;exact ⟨ds,ms,ps,h.fo.far hg (fun q e=>by injection e with e;subst e;exact h.fo.old hl),h.mo.far hg (fun q e r=>by injection r with r;have:=h.mo.ge q e;omega),h.so,h.tb.only hg hl⟩
end
theorem yO {fn:Func} {i:Nat} (h:fn.results=#[.cell i 47]) (tmps:Array Value) (w:World) (g:Nat) (s:Sy) (hp:tmps.getD i undef= .pointer (some ⟨g,0,none⟩)) (hg:Blk w g 47 (syC s)):
  (results fn tmps).run Tryz.prog w= .ok (.agg (syC s)) w:=
 results_cell_row h tmps w g _ (syC s) (0,0) _ hp hg Tryz.underlying47 rfl (gL s)
theorem qJ (s:Sy):Tryz.prog.built 47 [(0, .agg #[.slice s.A s.n s.c, .slice s.Am s.nm s.cm]),(1, .agg #[.int .i64 s.ta, .int .i64 s.tb, .slice s.At s.nt s.ct])]=some (syC s):=by
 kernel_rfl
def CyP (w:World) (e:Ending) (w' :World):Prop:=∃ s',e= .returned (.agg (syC s'))∧SyO w' w.heap.size s' ∧Below w.heap.size w w'
theorem oL (s:Sy) (w:World) (b:Nat) (h:SyO w b s):
   Calls Tryz.prog 30 #[.agg (syC s)] w (CyP w):=by
 obtain ⟨ds,ms,ps,hh⟩:=h;have HO:=Hd hh;have HF:=Hd hh.few;have HT:=Hd hh.nt;clear hh;have hb0:=aY w (syC s) syZ 47 47;have h2:=Blk.new (w.alloc (.cells (syC s) 47)) syZ 47;simp only [World.size_alloc] at h2;have S0:=Hd (show Below w.heap.size w ((w.alloc (.cells (syC s) 47)).alloc (.cells syZ 47))∧Blk ((w.alloc (.cells (syC s) 47)).alloc (.cells syZ 47)) w.heap.size 47 (syC s) from ⟨hb0,(Blk.new w (syC s) 47).alloc _⟩);have R0:=Hd h2;clear hb0 h2;go_in;go_upto_region 1 with fail;generalize (w.alloc (.cells (syC s) 47)).alloc (.cells syZ 47)=w0 at *;have S1:=Hd (show Below w.heap.size w w0.drew∧Blk w0.drew w.heap.size 47 (syC s) from ⟨aa S0.o.1 (Below.refl w0.heap.size w0).drew,S0.o.2.below (Below.refl w0.heap.size w0).drew⟩);have R1:=Hd (R0.o.below (Below.refl w0.heap.size w0).drew);clear S0 R0;refine wp_region_held_drew (S:=(fun W=>Below w.heap.size w W∧Blk W w.heap.size 47 (syC s))) (by kernel_rfl) S1.o (fun hHeld=>?_);generalize w0.drew=w1 at *;refine tk hHeld 0 ?_ ?_ (tk hHeld 1 ?_ ?_ (tk hHeld 3 ?_ ?_ (tk hHeld 4 ?_ ?_ ?_)));iterate 4
   rotate_left
   · intro W hSw;have x0:=hSw.2.cell 0;have x1:=hSw.2.cell 1;have x2:=hSw.2.cell 2;have x3:=hSw.2.cell 3;have x4:=hSw.2.cell 4;go_simp;try (with_reducible rfl)
 refine rdy1 2 (fun K hK=>?_);go_simp;go_at_call 52;refine (o7 ds s.A s.n s.c HF.o.2.2 ms s.Am s.nm s.cm HF.o.1 (by have:=HF.o.2.1;omega) w1 (HO.o.below S1.o.1).files (HO.o.below S1.o.1).aW).mono ?_;rintro e w2 ⟨A2,n2,c2,Am2,nm2,cm2,d2,rfl,hf,he,hm,hb⟩;have S2:=Hd (show Below w.heap.size w w2∧Blk w2 w.heap.size 47 (syC s) from ⟨aa S1.o.1 hb,S1.o.2.below hb⟩);have R2:=Hd (R1.o.below hb);have F2:=Hd (hf.low S1.o.1.size);have M2:=Hd (hm.low S1.o.1.size);have E2:=Hd he;clear hf hm he hb S1 R1;go_simp;refine hK.o _ _ S2.o (fun hHeld=>?_);clear hK K;refine rdy1 5 (fun K hK=>?_);go_simp;go_at_call 53;refine (qm s.ta s.tb ps s.At s.nt s.ct HT.o.1 HT.o.2 (fun x hx=>(HO.o.tb.op x hx).2) w2 ((HO.o.below S2.o.1).tb.at'.2)).mono ?_;rintro e w3 ⟨At3,nt3,ct3,p3,rfl,hp,hb,_⟩;have S3:=Hd (show Below w.heap.size w w3∧Blk w3 w.heap.size 47 (syC s) from ⟨aa S2.o.1 hb,S2.o.2.below hb⟩);have R3:=Hd (R2.o.below hb);have O3:=Hd (show fG w3 w.heap.size ⟨A2,n2,c2,Am2,nm2,cm2,s.ta,s.tb,At3,nt3,ct3⟩ d2 ms p3 from ⟨F2.o.below hb,M2.o.below hb,by rw [E2.o];exact HO.o.so,hp.low S2.o.1.size⟩);clear hp hb S2 R2 F2 M2 E2;go_simp;refine hK.o _ _ S3.o (fun hHeld=>?_);clear hK K;refine rdy1 6 (fun K hK=>?_);refine fU (by rfl) 47 _ (by rfl) (syC (⟨A2,n2,c2,Am2,nm2,cm2,s.ta,s.tb,At3,nt3,ct3⟩:Sy)) ?_ ?_
 · go_simp;exact qJ (⟨A2,n2,c2,Am2,nm2,cm2,s.ta,s.tb,At3,nt3,ct3⟩:Sy)
 generalize (⟨A2,n2,c2,Am2,nm2,cm2,s.ta,s.tb,At3,nt3,ct3⟩:Sy)=s3 at *;refine hK.o _ _ S3.o (fun hHeld=>?_);clear hK K;refine rdy1 7 (fun K hK=>?_);refine af (by rfl) 47 (.tmp 2) (.tmp 9) (by rfl) R3.o (syC s3) ?_ ?_ (gL _) rfl (fD _) ?_
 · go_simp
 · go_simp
 have S4:=Hd (show Below w.heap.size w (w3.setRow (w.heap.size+1) (syC s3))∧Blk (w3.setRow (w.heap.size+1) (syC s3)) w.heap.size 47 (syC s) from ⟨ai S3.o.1 (show w.heap.size≤w.heap.size+1 by omega) (syC s3),S3.o.2.ah _ (by omega)⟩);have O4:=Hd (O3.o.far (aA w3 (w.heap.size+1) (syC s3)) R3.o (by decide));have R4:=Hd (R3.o.row (syC s3));clear R3 O3 S3;refine hK.o _ _ S4.o (fun hHeld=>?_);clear hK K;generalize w3.setRow (w.heap.size+1) (syC s3)=w4 at *;refine wpAnyH_done (by kernel_rfl) ?_ _;go_wp2_with fail;refine bodyPost_ret (yO (fn:=Tryz.f30) rfl _ _ (w.heap.size+1) s3 rfl R4.o) rfl ?_;exact ⟨s3,rfl,⟨_,_,_,O4.o⟩,S4.o.1⟩
def vW (d i:Int):Pm:=⟨⟨1,0,0,0,0,0,4294967295,4294967295,d,i,⟨#[105,110,105,116]⟩,⟨#[47,105,110,105,116]⟩,true⟩, [],none,0⟩
def NwP (d i:Int) (w:World) (e:Ending) (w' :World):Prop:=∃ (A:Option Addr) (c:Nat),e= .returned (.agg (tbC 2 1 (.slice A 1 c)))∧ay EPc w' w.heap.size (.slice A 1 c) [vW d i]∧Below w.heap.size w w'
theorem Gu (d i:Int) (w:World):Calls Tryz.prog 36 #[flV d i] w (NwP d i w):=by
 have hb0:=aY w #[.int .i64 d, .int .i64 i] (tbC 0 0 (.slice none 0 0)) 26 45;have h2:=Blk.new (w.alloc (.cells #[.int .i64 d, .int .i64 i] 26)) (tbC 0 0 (.slice none 0 0)) 45;simp only [World.size_alloc] at h2;have B0:=Hd hb0;have U0:=Hd ((Blk.new w #[.int .i64 d, .int .i64 i] 26).alloc (.cells (tbC 0 0 (.slice none 0 0)) 45));have R0:=Hd h2;have HW:=Hd (show ((w.alloc (.cells #[.int .i64 d, .int .i64 i] 26)).alloc (.cells (tbC 0 0 (.slice none 0 0)) 45)).heap.size=w.heap.size+1+1 by simp);clear hb0 h2;go_in;go_upto_region 1 with fail;generalize (w.alloc (.cells #[.int .i64 d, .int .i64 i] 26)).alloc (.cells (tbC 0 0 (.slice none 0 0)) 45)=w0 at *;have u0:=U0.o.cell 0;have u1:=U0.o.cell 1;have R1:=Hd (R0.o.alloc (.cells #[.int .i64 1, .int .i64 0, .int .i64 0, .int .i64 0, .int .i64 0, .int .i64 0, .int .i64 4294967295, .int .i64 4294967295, .int .i64 d, .int .i64 i, .string ⟨#[105,110,105,116]⟩, .string ⟨#[47,105,110,105,116]⟩, .slice none 0 0, .bool true] 29));have B1:=Hd (B0.o.alloc B0.o.size (.cells #[.int .i64 1, .int .i64 0, .int .i64 0, .int .i64 0, .int .i64 0, .int .i64 0, .int .i64 4294967295, .int .i64 4294967295, .int .i64 d, .int .i64 i, .string ⟨#[105,110,105,116]⟩, .string ⟨#[47,105,110,105,116]⟩, .slice none 0 0, .bool true] 29));have O1:=Hd (tK EPc w0 w0.heap.size #[.int .i64 1, .int .i64 0, .int .i64 0, .int .i64 0, .int .i64 0, .int .i64 0, .int .i64 4294967295, .int .i64 4294967295, .int .i64 d, .int .i64 i, .string ⟨#[105,110,105,116]⟩, .string ⟨#[47,105,110,105,116]⟩, .slice none 0 0, .bool true] (vW d i) rfl (Nat.le_refl _));go_wp2_with ((with_reducible refine ae ?_ 45 (.tmp 2) (.tmp 6) ?_ R1.o (tbC 2 1 (.slice (some ⟨w0.heap.size,0,none⟩) 1 1)) ?_ ?_ ?_ ?_ ?_ ?_);(iterate 4 rfl);(exact aK _ _ _);rfl;(exact aN _ _ _ _ _));refine bodyPost_ret (uD (fn:=Tryz.f36) rfl _ _ (w.heap.size+1) 2 1 (.slice (some ⟨w0.heap.size,0,none⟩) 1 1) rfl (Blk.row R1.o _)) rfl ?_;have gr:=aA (w0.alloc (.cells #[.int .i64 1, .int .i64 0, .int .i64 0, .int .i64 0, .int .i64 0, .int .i64 0, .int .i64 4294967295, .int .i64 4294967295, .int .i64 d, .int .i64 i, .string ⟨#[105,110,105,116]⟩, .string ⟨#[47,105,110,105,116]⟩, .slice none 0 0, .bool true] 29)) (w.heap.size+1) (tbC 2 1 (.slice (some ⟨w0.heap.size,0,none⟩) 1 1));exact ⟨_,1,rfl,(O1.o.far gr (fun q e r=>by injection r with r;have:=O1.o.ge q e;have:=HW.o;omega)).low (by have:=HW.o;omega),ai B1.o (by omega) _⟩
theorem AB {fn:Func} {i j:Nat} (h:fn.results=#[.cell i 47, .tmp j]) (tmps:Array Value) (w:World) (g:Nat) (s:Sy) (hp:tmps.getD i undef= .pointer (some ⟨g,0,none⟩)) (hg:Blk w g 47 (syC s)):
  (results fn tmps).run Tryz.prog w= .ok (.tuple #[.agg (syC s),tmps.getD j undef]) w:=by
 have hp' :tmps[i]?.getD undef= .pointer (some ⟨g,0,none⟩):=by simpa using hp
 simp [results,h,hp',asAddr,run_loadVar_row w g 47 47 (syC s) (0,0) _ hg Tryz.underlying47 rfl (gL s)]
def NwY (w:World) (e:Ending) (w' :World):Prop:=∃ s',e= .returned (.tuple #[.agg (syC s'), .int .i64 0])∧SyO w' w.heap.size s' ∧Below w.heap.size w w'
theorem aJ.init {w:World} {base:Nat} {A:Option Addr} {c:Nat} (d i:Int) (h:ay EPc w base (.slice A 1 c) [vW d i]):aJ w base (.slice A 1 c) [vW d i]:=
 ⟨h,by show 1≤16;omega,fun x hx=>by rw [List.mem_singleton.1 hx];exact ⟨ay.nil _ _,by show (0:Nat)≤8;omega,by show (4:Nat)≤640;omega,by show (5:Nat)≤640;omega⟩⟩
theorem Gv (n:Nat) (h1:1≤n) (h3:n≤3) (w:World):
   Calls Tryz.prog 14 #[.int .i64 (n:Int)] w (NwY w):=by
 have S0:=Hd (show Below w.heap.size w (w.alloc (.cells syZ 47)) from (Below.refl _ _).alloc (Nat.le_refl _) _);have R0:=Hd (Blk.new w syZ 47);go_in;go_wp2_with fail;generalize w.alloc (.cells syZ 47)=w0 at *;refine (FE n h1 h3 w0).mono ?_;rintro e w1 ⟨v,ds,rfl,hf,he,hb⟩;have S1:=Hd (aa S0.o hb);have R1:=Hd (R0.o.below hb);have F1:=Hd (hf.low S0.o.size);have E1:=Hd he;clear hf he hb S0 R0;obtain ⟨A,c,rfl,_⟩:=F1.o.own.at;go_upto_region 4 with fail;have hb:=(Below.refl w1.heap.size w1).alloc (Nat.le_refl _) (.cells #[.slice A ds.length c] 39);have S2:=Hd (aa S1.o hb);have R2:=Hd (R1.o.below hb);have F2:=Hd (F1.o.below hb);have X2:=Hd (Blk.new w1 #[.slice A ds.length c] 39);generalize w1.heap.size=gf at *;clear hb S1 R1 F1;generalize w1.alloc (.cells #[.slice A ds.length c] 39)=w2 at *;have S3:=Hd (show Below w.heap.size w w2.drew∧Blk w2.drew gf 39 #[.slice A ds.length c] from ⟨aa S2.o (Below.refl w2.heap.size w2).drew,X2.o.below (Below.refl w2.heap.size w2).drew⟩);have R3:=Hd (R2.o.below (Below.refl w2.heap.size w2).drew);have F3:=Hd (F2.o.below (Below.refl w2.heap.size w2).drew);have HG:=Hd (show w.heap.size≤w2.heap.size from S2.o.size);clear S2 R2 F2 X2;refine wp_region_held_drew (S:=(fun W=>Below w.heap.size w W∧Blk W gf 39 #[.slice A ds.length c])) (by kernel_rfl) S3.o (fun hHeld=>?_);generalize w2.drew=w3 at *;refine tk hHeld 0 ?_ ?_ (tk hHeld 1 ?_ ?_ (tk hHeld 2 ?_ ?_ ?_));iterate 3
   rotate_left
   · intro W hSw;have x0:=hSw.2.cell 0;go_simp;try (with_reducible rfl)
 refine rdy1 3 (fun K hK=>?_);go_simp;go_at_call 36;refine (Gu 0 1 w3).mono ?_;rintro e w4 ⟨At,ct,rfl,hp,hb⟩;have hsz:=S3.o.1.size;have S4:=Hd (show Below w.heap.size w w4∧Blk w4 gf 39 #[.slice A ds.length c] from ⟨aa S3.o.1 hb,S3.o.2.below hb⟩);have R4:=Hd (R3.o.below hb);have O4:=Hd (show fG w4 w.heap.size ⟨A,ds.length,c,none,0,0,2,1,At,1,ct⟩ ds [] [vW 0 1] from ⟨F3.o.below hb,ay.nil _ _,by rw [E1.o];exact ⟨FOk.new h1 h3, .nil⟩,aJ.init 0 1 (hp.low hsz)⟩);clear hp hb S3 R3 F3 hsz;go_simp;refine hK.o _ _ S4.o (fun hHeld=>?_);clear hK K;refine rdy1 4 (fun K hK=>?_);refine fU (by rfl) 47 _ (by rfl) (syC (⟨A,ds.length,c,none,0,0,2,1,At,1,ct⟩:Sy)) ?_ ?_
 · go_simp;exact qJ (⟨A,ds.length,c,none,0,0,2,1,At,1,ct⟩:Sy)
 generalize (⟨A,ds.length,c,none,0,0,2,1,At,1,ct⟩:Sy)=s3 at *;refine hK.o _ _ S4.o (fun hHeld=>?_);clear hK K;refine rdy1 5 (fun K hK=>?_);refine af (by rfl) 47 (.tmp 2) (.tmp 19) (by rfl) R4.o (syC s3) ?_ ?_ (gL _) rfl (fD _) ?_
 · go_simp
 · go_simp
 have hne:gf≠w.heap.size:=fun e=>by subst e;have h5:=R4.o;have h6:=S4.o.2;unfold Blk at h5 h6;rw [h5] at h6;injection h6 with h6;injection h6 with _ h6;exact absurd h6 (by decide)
 have S5:=Hd (show Below w.heap.size w (w4.setRow w.heap.size (syC s3))∧Blk (w4.setRow w.heap.size (syC s3)) gf 39 #[.slice A ds.length c] from ⟨ai S4.o.1 (Nat.le_refl _) (syC s3),S4.o.2.ah _ hne⟩);have O5:=Hd (O4.o.far (aA w4 w.heap.size (syC s3)) R4.o (by decide));have R5:=Hd (R4.o.row (syC s3));clear R4 O4 S4 hne;refine hK.o _ _ S5.o (fun hHeld=>?_);clear hK K;generalize w4.setRow w.heap.size (syC s3)=w5 at *;refine tk hHeld 6 ?_ ?_ ?_;rotate_left
 · intro W hSw;go_simp;try (with_reducible rfl)
 refine wpAnyH_done (by kernel_rfl) ?_ _;go_wp2_with fail;refine bodyPost_ret (AB (fn:=Tryz.f14) rfl _ _ w.heap.size s3 rfl R5.o) rfl ?_;exact ⟨s3,rfl,⟨_,_,_,O5.o⟩,S5.o.1⟩
end Go.Proofs.YtnpaoepkpdileaaGreatDoor
