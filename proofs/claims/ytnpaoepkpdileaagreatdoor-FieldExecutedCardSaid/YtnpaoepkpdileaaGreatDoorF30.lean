import Derived.Test.YtnpaoepkpdileaaGreatDoorF28
import Derived.Test.YtnpaoepkpdileaaGreatDoorF29
set_option maxRecDepth 100000
set_option maxHeartbeats 64000000
set_option linter.all false
namespace Go.Proofs.YtnpaoepkpdileaaGreatDoor
open Go.RowKit
structure GtF (w wr:World) (gr gp:Nat) (a b:Int) (A:Option Addr) (n c:Nat) (ps:List Pm) (x:Pm):Prop where
 V:Blk wr w.heap.size 45 (tbC a b (.slice A n c))
 R:Blk wr gr 45 (tbC 0 0 (.slice none 0 0))
 X:Blk wr gp 29 (psC x.p (.slice x.A x.ds.length x.c))
 P:ay EDs wr w.heap.size x.sl x.ds
 D:jI wr w.heap.size A ps
 B:Below w.heap.size w wr
 h:w.heap.size < gr∧gr < gp
 k:x.Ok
theorem GtF.below {w wr w' :World} {gr gp n c:Nat} {a b:Int} {A:Option Addr} {ps:List Pm} {x:Pm} (h:GtF w wr gr gp a b A n c ps x) (hb:Below wr.heap.size wr w'):GtF w w' gr gp a b A n c ps x:=
 ⟨h.V.below hb,h.R.below hb,h.X.below hb,h.P.below hb,h.D.keep hb h.B.size,aa h.B hb,h.h,h.k⟩
theorem GtF.set {w wr:World} {gr gp n c i:Nat} {a b:Int} {A A2:Option Addr} {c2:Nat} {ds:List Ds} {ps:List Pm} {p p' :Pc} {v:Value} (h:GtF w wr gr gp a b A n c ps ⟨p,ds,A2,c2⟩) (e:(psC p (.slice A2 ds.length c2)).setIfInBounds i v=psC p' (.slice A2 ds.length c2)) (hk:p'.co.size≤640∧p'.ex.size≤640):
  GtF w (wr.setCell ⟨gp,i,none⟩ v) gr gp a b A n c ps ⟨p',ds,A2,c2⟩:=by
 have hh:=h.h;have hX:Blk (wr.setCell ⟨gp,i,none⟩ v) gp 29 (psC p' (.slice A2 ds.length c2)):=by
  have h1:=h.X.put i v;rw [e] at h1;exact h1
 exact ⟨h.V.ag _ (by show w.heap.size≠gp;omega),h.R.ag _ (by show gr≠gp;omega),hX,h.P.dN (g:=gp) (i:=i) (aC h.P h.X (by decide)) v,h.D.keep ((Below.refl _ wr).setCell (p:=⟨gp,i,none⟩) (by show w.heap.size≤gp;omega) v) (Nat.le_refl _),h.B.setCell (p:=⟨gp,i,none⟩) (by show w.heap.size≤gp;omega) v,hh,h.k.1,hk⟩
def TbP (w:World) (e:Ending) (w' :World):Prop:=∃ (a b:Int) (A:Option Addr) (n c:Nat) (k:Int),e= .returned (.tuple #[.agg (tbC a b (.slice A n c)), .int .i64 k])∧Below w.heap.size w w' ∧(k=0→∃ ps,aJ w' w.heap.size (.slice A n c) ps)
theorem dF {w wr:World} {gr:Nat} (R:Blk wr gr 45 (tbC 0 0 (.slice none 0 0))) (hB:Below w.heap.size w wr) (hg:w.heap.size≤gr) {k:Int} (hk:k≠0):TbP w (.returned (.tuple #[.agg (tbC 0 0 (.slice none 0 0)), .int .i64 k])) (wr.setRow gr (tbC 0 0 (.slice none 0 0))):=
 ⟨0,0,none,0,0,k,rfl,ai hB hg _,fun h=>absurd h hk⟩
theorem jK {w w3:World} {gr n c:Nat} {a b:Int} {A:Option Addr} {zs:List Pm} (hO:aJ w3 w.heap.size (.slice A n c) zs) (R:Blk w3 gr 45 (tbC 0 0 (.slice none 0 0))) (hB:Below w.heap.size w w3) (hg:w.heap.size≤gr):
  TbP w (.returned (.tuple #[.agg (tbC a b (.slice A n c)), .int .i64 0])) (w3.setRow gr (tbC a b (.slice A n c))):=
 ⟨a,b,A,n,c,0,rfl,ai hB hg _,fun _=>⟨zs,hO.far (aA w3 gr _) (fun q e=>by injection e with e;subst e;exact hO.blk R (by decide) (by decide))⟩⟩
def Er (w:World) (e:Ending) (w' :World):Prop:=∃ (a b:Int) (A:Option Addr) (n c:Nat) (j k:Int),e= .returned (.tuple #[.agg (tbC a b (.slice A n c)), .int .i64 j, .int .i64 k])∧Below w.heap.size w w' ∧(k=0→∃ ps,aJ w' w.heap.size (.slice A n c) ps)
theorem jA {fn:Func} {i j k:Nat} (h:fn.results=#[.cell i 45, .tmp j, .tmp k]) (tmps:Array Value) (w:World) (g:Nat) (a b:Int) (v:Value) (hp:tmps.getD i undef= .pointer (some ⟨g,0,none⟩)) (hg:Blk w g 45 (tbC a b v)):
  (results fn tmps).run Tryz.prog w= .ok (.tuple #[.agg (tbC a b v),tmps.getD j undef,tmps.getD k undef]) w:=by
 have hp' :tmps[i]?.getD undef= .pointer (some ⟨g,0,none⟩):=by simpa using hp
 simp [results,h,hp',asAddr,run_loadVar_row w g 45 45 (tbC a b v) (0,0) _ hg Tryz.underlying45 rfl (aK a b v)]
theorem mH {w wr:World} {gr:Nat} (hB:Below w.heap.size w wr) (hg:w.heap.size≤gr) (j:Int) {k:Int} (hk:k≠0):Er w (.returned (.tuple #[.agg (tbC 0 0 (.slice none 0 0)), .int .i64 j, .int .i64 k])) (wr.setRow gr (tbC 0 0 (.slice none 0 0))):=
 ⟨0,0,none,0,0,j,k,rfl,ai hB hg _,fun h=>absurd h hk⟩
theorem uG {w w3:World} {gr n c:Nat} {a b:Int} {A:Option Addr} {zs:List Pm} (hO:aJ w3 w.heap.size (.slice A n c) zs) (R:Blk w3 gr 45 (tbC 0 0 (.slice none 0 0))) (hB:Below w.heap.size w w3) (hg:w.heap.size≤gr) (j:Int):
  Er w (.returned (.tuple #[.agg (tbC a b (.slice A n c)), .int .i64 j, .int .i64 0])) (w3.setRow gr (tbC a b (.slice A n c))):=
 ⟨a,b,A,n,c,j,0,rfl,ai hB hg _,fun _=>⟨zs,hO.far (aA w3 gr _) (fun q e=>by injection e with e;subst e;exact hO.blk R (by decide) (by decide))⟩⟩
theorem GtF.FJ {w wr:World} {gr gp go n c i:Nat} {a b:Int} {A:Option Addr} {ps:List Pm} {x:Pm} {t:TypeId} {cs:Array Value} (h:GtF w wr gr gp a b A n c ps x) (hG:Blk wr go t cs) (ht:(EDs.e:TypeId)≠t) (hgo:gp < go) (u:Value):GtF w (wr.setCell ⟨go,i,none⟩ u) gr gp a b A n c ps x:=by
 have hh:=h.h;exact ⟨h.V.ag _ (by show w.heap.size≠go;omega),h.R.ag _ (by show gr≠go;omega),h.X.ag _ (by show gp≠go;omega),h.P.dN (g:=go) (i:=i) (aC h.P hG ht) u,h.D.keep ((Below.refl _ wr).setCell (p:=⟨go,i,none⟩) (by show w.heap.size≤go;omega) u) (Nat.le_refl _),h.B.setCell (p:=⟨go,i,none⟩) (by show w.heap.size≤go;omega) u,hh,h.k⟩
theorem Cu (a b:Int) (ps:List Pm) (A:Option Addr) (n c:Nat) (hn:n=ps.length) (hl:n≤16) (hk:∀ x∈ps,x.Ok) (pid:Int) (w:World) (h:jI w w.heap.size A ps):
   Calls Tryz.prog 101 #[.agg (tbC a b (.slice A n c)), .int .i64 pid] w (Er w):=by
 have HN:=Hd hn;have HL:=Hd hl;have HK:=Hd hk;have hb0:=aY w (tbC a b (.slice A n c)) (tbC 0 0 (.slice none 0 0)) 45 45;have h2:=Blk.new (w.alloc (.cells (tbC a b (.slice A n c)) 45)) (tbC 0 0 (.slice none 0 0)) 45;simp only [World.size_alloc] at h2;have B0:=Hd hb0;have V0:=Hd ((Blk.new w (tbC a b (.slice A n c)) 45).alloc (.cells (tbC 0 0 (.slice none 0 0)) 45));have R0:=Hd h2;have D0:=Hd (h.keep hb0 (Nat.le_refl _));clear h hn hl hk hb0 h2;go_in;go_upto_region 1 with fail;generalize ((w.alloc (.cells (tbC a b (.slice A n c)) 45)).alloc (.cells (tbC 0 0 (.slice none 0 0)) 45))=w0 at *;go_wp2_with ((with_reducible refine ax ?_ 45 (.tmp 2) ?_ V0.o ?_ _ Tryz.underlying45 ?_ ?_ ?_);(iterate 4 rfl);exact aK _ _ _);refine (jP a b pid ps A n c HN.o w0 (D0.o.more B0.o.size)).mono ?_;rintro e w1 ⟨hb1,rfl | ⟨y,hy,A2,c2,rfl,ho⟩⟩
 · have hba:=(Below.refl w1.heap.size w1).alloc (Nat.le_refl _) (.cells (psC zPc (.slice none 0 0)) 29);have hbb:=aa hb1 hba;have R1:=Hd (R0.o.below hbb);have B1:=Hd (aa B0.o hbb);clear hba hbb hb1 V0 R0 B0 D0;go_wp2_with ((with_reducible refine ae ?_ 45 (.tmp 4) (.tmp 18) ?_ R1.o (tbC 0 0 (.slice none 0 0)) ?_ ?_ ?_ ?_ ?_ ?_);(iterate 4 rfl);(exact aK _ _ _);rfl;(exact aN _ _ _ _ _));refine bodyPost_ret (jA (fn:=Tryz.f101) rfl _ _ (w.heap.size+1) 0 0 (.slice none 0 0) rfl (Blk.row R1.o _)) rfl ?_;exact mH B1.o (by omega) _ (by decide)
 · have hba:=(Below.refl w1.heap.size w1).alloc (Nat.le_refl _) (.cells (psC y.p (.slice A2 y.ds.length c2)) 29);have hbb:=aa hb1 hba;have hr1:=(R0.o.below hb1).lt;have F1:=Hd (show GtF w (w1.alloc (.cells (psC y.p (.slice A2 y.ds.length c2)) 29)) (w.heap.size+1) w1.heap.size a b A n c ps ⟨y.p,y.ds,A2,c2⟩ from ⟨V0.o.below hbb,R0.o.below hbb,Blk.new w1 _ _,(ho.low B0.o.size).below hba,D0.o.keep hbb B0.o.size,aa B0.o hbb,⟨by omega,hr1⟩,HK.o y hy⟩);clear hba hbb hb1 V0 R0 B0 D0 ho hr1 hy;go_upto_region 4 with fail;generalize w1.alloc (.cells (psC y.p (.slice A2 y.ds.length c2)) 29)=w2 at *;generalize w1.heap.size=gp at *;have HK2:=Hd F1.o.k;have v2:=F1.o.V.cell 2;have v0:=F1.o.V.cell 0;go_cut [27] (fun u wx=>∃ bb:Bool,u= .bool bb∧(bb=false→n < 16)∧w2=wx);case first=>
     by_cases h16:n < 16;case pos=>
       have q1:¬ (16:Int)≤(n:Int):=(by omega);go_wp2_with fail;go_meet;exact ⟨_,rfl,(fun _=>h16),rfl⟩
     case neg=>
       have q1:(16:Int)≤(n:Int):=(by omega);go_wp2_with fail;go_meet;exact ⟨true,rfl,(fun h=>nomatch h),rfl⟩
   case rest=>
   obtain ⟨bb,rfl,hbb,rfl⟩:=hcut;clear v2;cases bb;case true=>
     clear hbb v0;go_wp2_with ((with_reducible refine ae ?_ 45 (.tmp 4) (.tmp 28) ?_ F1.o.R (tbC 0 0 (.slice none 0 0)) ?_ ?_ ?_ ?_ ?_ ?_);(iterate 4 rfl);(exact aK _ _ _);rfl;(exact aN _ _ _ _ _));refine bodyPost_ret (jA (fn:=Tryz.f101) rfl _ _ (w.heap.size+1) 0 0 (.slice none 0 0) rfl (Blk.row F1.o.R _)) rfl ?_;exact mH F1.o.B (by omega) _ (by decide)
   have H16:=Hd (hbb rfl);clear hbb;have c0:=F1.o.X.cell 0;have f0:=F1.o.X.free 0;have c1:=F1.o.X.cell 1;have f1:=F1.o.X.free 1;have F3:=Hd ((F1.o.set (i:=0) (v:= .int .i64 a) (p' := { y.p with pid:=a }) rfl HK2.o.2).set (i:=1) (v:= .int .i64 pid) (p' := { { y.p with pid:=a } with pp:=pid }) rfl HK2.o.2);go_upto_region 7 with fail;clear F1 v0 c0 f0 c1 f1;generalize (w2.setCell ⟨gp,0,none⟩ (.int .i64 a)).setCell ⟨gp,1,none⟩ (.int .i64 pid)=w3 at *;generalize ({ { y.p with pid:=a } with pp:=pid } :Pc)=p3 at *;go_wp2_with ((with_reducible refine ax ?_ 45 (.tmp 2) ?_ F3.o.V ?_ _ Tryz.underlying45 ?_ ?_ ?_);(iterate 4 rfl);exact aK _ _ _);refine (qm a b ps A n c HN.o HL.o HK.o w3 (F3.o.D.more F3.o.B.size)).mono ?_;rintro e w5 ⟨A5,n5,c5,zs,rfl,hO,hb5,hm⟩;have hba:=(Below.refl w5.heap.size w5).alloc (Nat.le_refl _) (.cells (tbC a b (.slice A5 n5 c5)) 45);have HQ:=Hd (show (Value.slice A5 n5 c5).ownBlock≠some gp from fun e=>by have:=hO.own.ge _ e;have:=F3.o.X.lt;omega);have hgo:gp < w5.heap.size:=Nat.lt_of_lt_of_le F3.o.X.lt hb5.size;have F6:=Hd ((F3.o.below hb5).below hba);have O6:=Hd ((hO.low F3.o.B.size).below hba);have G6:=Hd (Blk.new w5 (tbC a b (.slice A5 n5 c5)) 45);have HZL:=Hd (show zs.length+1≤16 by have:=H16.o;omega);clear hba hb5 hO hm F3;go_upto_region 8 with fail;generalize w5.alloc (.cells (tbC a b (.slice A5 n5 c5)) 45)=w6 at *;generalize w5.heap.size=go at *;have c0:=G6.o.cell 0;have f0:=G6.o.free 0;go_upto_region 9 with fail;clear c0 f0;have F7:=Hd (F6.o.FJ (i:=0) G6.o (by decide) hgo (.int .i64 (wrap64 (a+1))));have G7:=Hd (show Blk (w6.setCell ⟨go,0,none⟩ (.int .i64 (wrap64 (a+1)))) go 45 (tbC (wrap64 (a+1)) b (.slice A5 n5 c5)) from G6.o.put 0 _);have O7:=Hd (O6.o.far (av w6 go 0 (.int .i64 (wrap64 (a+1)))) (fun q e=>by injection e with e;subst e;exact O6.o.blk G6.o (by decide) (by decide)));clear F6 G6 O6;generalize wrap64 (a+1)=a7 at *;generalize w6.setCell ⟨go,0,none⟩ (.int .i64 a7)=w7 at *;have hba:=(Below.refl w7.heap.size w7).alloc (Nat.le_refl _) (.cells (psC p3 (.slice A2 y.ds.length c2)) 29);have F8:=Hd (F7.o.below hba);have O8:=Hd (O7.o.below hba);have G8:=Hd (G7.o.below hba);have RW:=Hd (aR EPc w7 (psC p3 (.slice A2 y.ds.length c2)) 29 (⟨p3,y.ds,A2,c2⟩:Pm) rfl (Nat.lt_succ_self w7.heap.size));have g2:=G7.o.cell 2;clear hba;go_wp2_with (first | ((with_reducible refine ax ?_ 29 (.tmp 7) ?_ F7.o.X ?_ _ Tryz.underlying29 ?_ ?_ ?_);(iterate 4 rfl);exact gU _ _) | (at_builtin;refine ak EPc rfl (.tmp 41) (.tmp 43) rfl w.heap.size (.slice A5 n5 c5) zs rfl O8.o.own (w7.heap.size+1) (some ⟨w7.heap.size,0,none⟩) 1 1 [(⟨p3,y.ds,A2,c2⟩:Pm)] rfl rfl RW.o (by have:=HZL.o;simp;omega) F8.o.B.size ?_));intro v9 w9 ho9 hg9 oW;clear g2;obtain ⟨A9,c9,e9,_⟩:=ho9.at;rw [show (zs ++ [(⟨p3,y.ds,A2,c2⟩:Pm)]).length=zs.length+1 by simp] at e9;subst e9;have O9:=Hd (O8.o.apps (ys:= [(⟨p3,y.ds,A2,c2⟩:Pm)]) (fun z hz=>by rw [List.mem_singleton.1 hz];exact ⟨F8.o.P,F8.o.k⟩) ho9 hg9 (by rw [List.length_append];exact HZL.o));have G9:=Hd (G8.o.grown hg9 (aC O8.o.own G8.o (by decide)));have R9:=Hd (F8.o.R.grown hg9 (aC O8.o.own F8.o.R (by decide)));have X9:=Hd (F8.o.X.grown hg9 HQ.o);have B9:=Hd (F8.o.B.grown hg9 F8.o.B.size (fun q e=>O8.o.own.ge q e));have FH:=Hd F8.o.h;clear ho9 hg9 oW RW F7 O7 G7 F8 O8 G8;have c2' :=G9.o.cell 2;have f2:=G9.o.free 2;generalize zs.length+1=yl at *;go_upto_region 10 with fail;clear c2' f2;have hfh:=FH.o;have O10:=Hd (O9.o.far (av w9 go 2 (.slice A9 yl c9)) (fun q e=>by injection e with e;subst e;exact O9.o.blk G9.o (by decide) (by decide)));have G10:=Hd (show Blk (w9.setCell ⟨go,2,none⟩ (.slice A9 yl c9)) go 45 (tbC a7 b (.slice A9 yl c9)) from G9.o.put 2 _);have R10:=Hd (R9.o.ag (p:=⟨go,2,none⟩) (.slice A9 yl c9) (by show w.heap.size+1≠go;omega));have X10:=Hd (X9.o.ag (p:=⟨go,2,none⟩) (.slice A9 yl c9) (by show gp≠go;omega));have B10:=Hd (B9.o.setCell (p:=⟨go,2,none⟩) (by show w.heap.size≤go;omega) (.slice A9 yl c9));clear O9 G9 R9 X9 B9;generalize w9.setCell ⟨go,2,none⟩ (.slice A9 yl c9)=w10 at *;refine wp_region_held_drew (S:=(fun W=>Blk W go 45 (tbC a7 b (.slice A9 yl c9))∧Blk W gp 29 (psC p3 (.slice A2 y.ds.length c2)))) (by kernel_rfl) ⟨G10.o,X10.o⟩ (fun hHeld=>?_);have hbd:=(Below.refl w10.heap.size w10).drew;have R11:=Hd (R10.o.below hbd);have O11:=Hd (O10.o.below hbd);have B11:=Hd (aa B10.o hbd);clear hbd R10 O10 B10;have hh:=hHeld;generalize w10.drew=w11 at *;refine tk hHeld 0 ?_ ?_ (tk hHeld 1 ?_ ?_ (tk hHeld 2 ?_ ?_ ?_));iterate 3
     rotate_left
     · intro W hSw;obtain ⟨z0,z1⟩:=hSw;have v0:=z0.cell 0;have v1:=z0.cell 1;have v2:=z0.cell 2;have x0:=z1.cell 0;go_simp;try (with_reducible rfl)
   refine rdy1 3 (fun K hK=>?_);refine af (by rfl) 45 (.tmp 4) (.tmp 46) (by rfl) R11.o (tbC a7 b (.slice A9 yl c9)) ?_ ?_ (aK _ _ _) rfl (aN _ _ _ _ _) ?_
   · go_simp
   · go_simp
   refine hK.o _ _ ⟨hHeld.1.ah _ (by omega),hHeld.2.ah _ (by omega)⟩ (fun hHeld=>?_);clear hK K;refine tk hHeld 4 ?_ ?_ (tk hHeld 5 ?_ ?_ ?_);iterate 2
     rotate_left
     · intro W hSw;go_simp;try (with_reducible rfl)
   refine wpAnyH_done (by kernel_rfl) ?_ _;go_simp;go_wp2_with fail;refine bodyPost_ret (jA (fn:=Tryz.f101) rfl _ _ (w.heap.size+1) a7 b (.slice A9 yl c9) rfl (Blk.row R11.o _)) rfl ?_;exact uG O11.o R11.o B11.o (by omega) _
theorem mI {w:World} {a:Addr} {x:Ds} (h:∀ j,j < 4→w.cell? (a.add j)=(EDs.C x)[j]?):w.cell? a=some (.int .i64 x.fd)∧w.cell? ⟨a.block,a.off+1,none⟩=some (.int .i64 x.d)∧w.cell? ⟨a.block,a.off+2,none⟩=some (.int .i64 x.i)∧w.cell? ⟨a.block,a.off+3,none⟩=some (.int .i64 x.fl):=
 ⟨h 0 (by omega),h 1 (by omega),h 2 (by omega),h 3 (by omega)⟩
theorem GtF.grown {w wr w' :World} {gr gp lo n c:Nat} {a b:Int} {A:Option Addr} {ps:List Pm} {x:Pm} (h:GtF w wr gr gp a b A n c ps x) {row:Option Nat} (hg:wr.grownBy w' row) (hr:∀ q,row=some q→lo≤q) (hl:gp < lo) (hp:∀ q,x.sl.ownBlock=some q→q < lo):GtF w w' gr gp a b A n c ps x:=by
 have hh:=h.h;exact ⟨h.V.grown hg (fun e=>by have:=hr _ e;omega),h.R.grown hg (fun e=>by have:=hr _ e;omega),h.X.grown hg (fun e=>by have:=hr _ e;omega),h.P.far hg (fun q e r=>by have:=hp q e;have:=hr q r;omega),h.D.keep ((Below.refl _ wr).grown hg h.B.size (fun q e=>by have:=hr q e;omega)) (Nat.le_refl _),h.B.grown hg h.B.size (fun q e=>by have:=hr q e;omega),hh,h.k⟩
theorem GtF.Es {w wr:World} {gr gp n c:Nat} {a b:Int} {A A2 A3:Option Addr} {c2 c3:Nat} {ds zs:List Ds} {ps:List Pm} {p:Pc} (h:GtF w wr gr gp a b A n c ps ⟨p,ds,A2,c2⟩) (ho:ay EDs wr w.heap.size (.slice A3 zs.length c3) zs) (hz:zs.length≤8):
  GtF w (wr.setCell ⟨gp,12,none⟩ (.slice A3 zs.length c3)) gr gp a b A n c ps ⟨p,zs,A3,c3⟩:=by
 have hh:=h.h;have hX:Blk (wr.setCell ⟨gp,12,none⟩ (.slice A3 zs.length c3)) gp 29 (psC p (.slice A3 zs.length c3)):=h.X.put 12 _;exact ⟨h.V.ag _ (by show w.heap.size≠gp;omega),h.R.ag _ (by show gr≠gp;omega),hX,ho.dN (g:=gp) (i:=12) (aC ho h.X (by decide)) _,h.D.keep ((Below.refl _ wr).setCell (p:=⟨gp,12,none⟩) (by show w.heap.size≤gp;omega) _) (Nat.le_refl _),h.B.setCell (p:=⟨gp,12,none⟩) (by show w.heap.size≤gp;omega) _,hh,hz,h.k.2⟩
theorem o8 (a b:Int) (ps:List Pm) (A:Option Addr) (n c:Nat) (hn:n=ps.length) (hl:n≤16) (hk:∀ x∈ps,x.Ok) (pid:Int) (u:Int) (w:World) (h:jI w w.heap.size A ps):
   Calls Tryz.prog 106 #[.agg (tbC a b (.slice A n c)), .int .i64 pid, .int .i64 u] w (TbP w):=by
 have HN:=Hd hn;have HL:=Hd hl;have HK:=Hd hk;have B0:=Hd (show Below w.heap.size w ((w.alloc (.cells (tbC a b (.slice A n c)) 45)).alloc (.cells (tbC 0 0 (.slice none 0 0)) 45)) from ((Below.refl w.heap.size w).alloc (Nat.le_refl _) _).alloc (by simp) _);have V0:=Hd ((Blk.new w (tbC a b (.slice A n c)) 45).alloc (.cells (tbC 0 0 (.slice none 0 0)) 45));have R0:=Hd (show Blk ((w.alloc (.cells (tbC a b (.slice A n c)) 45)).alloc (.cells (tbC 0 0 (.slice none 0 0)) 45)) (w.heap.size+1) 45 (tbC 0 0 (.slice none 0 0)) by
   have h:=Blk.new (w.alloc (.cells (tbC a b (.slice A n c)) 45)) (tbC 0 0 (.slice none 0 0)) 45;simpa using h)
 have D0:=Hd (h.keep B0.o (Nat.le_refl _));clear h hn hl hk;go_in;go_upto_region 1 with fail;generalize ((w.alloc (.cells (tbC a b (.slice A n c)) 45)).alloc (.cells (tbC 0 0 (.slice none 0 0)) 45))=w0 at *;go_wp2_with ((with_reducible refine ax ?_ 45 (.tmp 3) ?_ V0.o ?_ _ Tryz.underlying45 ?_ ?_ ?_);(iterate 4 rfl);exact aK _ _ _);refine (jP a b pid ps A n c HN.o w0 (D0.o.more B0.o.size)).mono ?_;rintro e w1 ⟨hb1,rfl | ⟨y,hy,A2,c2,rfl,ho⟩⟩
 · have hba:=(Below.refl w1.heap.size w1).alloc (Nat.le_refl _) (.cells (psC zPc (.slice none 0 0)) 29);have R1:=Hd ((R0.o.below hb1).below hba);have B1:=Hd (aa (aa B0.o hb1) hba);clear hba hb1 V0 R0 B0 D0;go_wp2_with ((with_reducible refine ae ?_ 45 (.tmp 6) (.tmp 20) ?_ R1.o (tbC 0 0 (.slice none 0 0)) ?_ ?_ ?_ ?_ ?_ ?_);(iterate 4 rfl);(exact aK _ _ _);rfl;(exact aN _ _ _ _ _));refine bodyPost_ret (aQ (fn:=Tryz.f106) rfl _ _ (w.heap.size+1) 0 0 (.slice none 0 0) rfl (Blk.row R1.o _)) rfl ?_;exact dF R1.o B1.o (by omega) (by decide)
 · have hba:=(Below.refl w1.heap.size w1).alloc (Nat.le_refl _) (.cells (psC y.p (.slice A2 y.ds.length c2)) 29);have hbb:=aa hb1 hba;have hr1:=(R0.o.below hb1).lt;have F1:=Hd (show GtF w (w1.alloc (.cells (psC y.p (.slice A2 y.ds.length c2)) 29)) (w.heap.size+1) w1.heap.size a b A n c ps ⟨y.p,y.ds,A2,c2⟩ from ⟨V0.o.below hbb,R0.o.below hbb,Blk.new w1 _ _,(ho.low B0.o.size).below hba,D0.o.keep hbb B0.o.size,aa B0.o hbb,⟨by omega,hr1⟩,HK.o y hy⟩);clear hba hbb hb1 V0 R0 B0 D0 ho hr1;go_upto_region 2 with fail;generalize w1.alloc (.cells (psC y.p (.slice A2 y.ds.length c2)) 29)=w2 at *;generalize w1.heap.size=gp at *;have HK2:=Hd F1.o.k;have HPL:=Hd (show ∀ q,(Value.slice A2 y.ds.length c2).ownBlock=some q→q < w2.heap.size from fun q e=>F1.o.P.lt q e);have hgl:gp < w2.heap.size:=F1.o.X.lt;have hwl:=F1.o.B.size;obtain ⟨lo,hlo⟩:∃ lo,lo=w2.heap.size:=⟨_,rfl⟩;have HLO:=Hd (show lo≤w2.heap.size by omega);rw [← hlo] at HPL hgl hwl;clear hlo;generalize hds:y.ds=ds at *;clear hds;go_upto_region 5 with fail;go_wp2_with fail;go_loopw [10,11] (fun v i wr=>∃ (k:Nat) (A0:Option Addr) (c0:Nat) (zs:List Ds),k≤ds.length∧v= .slice A0 zs.length c0∧i= .int .i64 k∧Hid (zs.length≤k)∧Hid (ay EDs wr lo (.slice A0 zs.length c0) zs)∧Hid (GtF w wr (w.heap.size+1) gp a b A n c ps ⟨y.p,ds,A2,c2⟩)∧Hid (lo≤wr.heap.size)) (fun _ i _=>ds.length - (intOf i).toNat);case atStart=>exact ⟨0,none,0, [],Nat.zero_le _,rfl,rfl,Hd (Nat.le_refl _),Hd (ay.nil _ _),F1,HLO⟩
   clear F1 HLO;obtain ⟨k,A0,c0,zs,hk,rfl,rfl,HY,HO,HF,HW⟩:=hrel;have x12:=HF.o.X.cell 12;by_cases hlt:k < ds.length;case pos=>
    have k1:(k:Int) < (ds.length:Int):=(by omega);have k2:(0:Int)≤(k:Int):=(by omega);have WK:=Hd (dB hk (by have:=HK2.o.1;show ds.length≤_;have h8:ds.length≤8:=this;omega));obtain ⟨am,e0,hab,hcx⟩:=aT HF.o.P k hlt;have e1:A2=some am:=e0;subst e1;obtain ⟨s0,s1,s2,s3⟩:=mI (a:=am.add (k * 4)) hcx;clear hcx e0 hab;generalize ds[k]=d at *;by_cases hfd:d.fd=u;case pos=>
     have q1:=(bJ hfd).2;clear hfd;obtain ⟨wk1,wk2⟩:=WK.o;go_wp2_with fail;clear wk1 wk2;go_roundw;case rel=>exact ⟨k+1,A0,c0,zs,hlt,rfl,by go_num,Hd (by have:=HY.o;omega),HO,HF,HW⟩
     case measure=>exact aZ hlt _ rfl
    case neg=>
     have q1:=(aO hfd).2;clear hfd;go_upto_region 9 with fail;clear q1;have hba:=(Below.refl wr.heap.size wr).alloc (Nat.le_refl _) (.cells #[.int .i64 d.fd, .int .i64 d.d, .int .i64 d.i, .int .i64 d.fl] 185);have F5:=Hd (HF.o.below hba);have O5:=Hd (HO.o.below hba);have W5:=Hd (Nat.le_trans HW.o hba.size);have RW:=Hd (aR EDs wr #[.int .i64 d.fd, .int .i64 d.d, .int .i64 d.i, .int .i64 d.fl] 185 d rfl (Nat.lt_succ_self wr.heap.size));clear hba;go_wp2_with (at_builtin;refine ak EDs rfl (.tmp 36) (.tmp 42) rfl lo (.slice A0 zs.length c0) zs rfl O5.o (wr.heap.size+1) (some ⟨wr.heap.size,0,none⟩) 1 1 [d] rfl rfl RW.o (by have:=HY.o;have h8:ds.length≤8:=HK2.o.1;simp;omega) W5.o ?_);intro v6 w6 ho6 hg6 nH;have F6:=Hd (F5.o.grown hg6 (fun q e=>O5.o.ge q e) hgl HPL.o);have W6:=Hd (Nat.le_trans W5.o hg6.size);obtain ⟨A6,c6,e6,_⟩:=ho6.at;subst e6;have O6:=Hd ho6;have HY6:=Hd (show (zs ++ [d]).length≤k+1 by have:=HY.o;rw [List.length_append];show zs.length+1≤_;omega);clear ho6 hg6 nH RW F5 O5 W5 s0 s1 s2 s3 x12;generalize zs ++ [d]=zn at *;obtain ⟨wk1,wk2⟩:=WK.o;go_wp2_with fail;clear wk1 wk2;go_roundw;case rel=>exact ⟨k+1,A6,c6,zn,hlt,rfl,by go_num,HY6,O6,F6,W6⟩
     case measure=>exact aZ hlt _ rfl
   have k1:¬ (k:Int) < (ds.length:Int):=(by omega);by_cases hzl:(zs.length:Int)=(ds.length:Int);case pos=>
    have q1:=(bJ hzl).1;go_wp2_with ((with_reducible refine ae ?_ 45 (.tmp 6) (.tmp 50) ?_ HF.o.R (tbC 0 0 (.slice none 0 0)) ?_ ?_ ?_ ?_ ?_ ?_);(iterate 4 rfl);(exact aK _ _ _);rfl;(exact aN _ _ _ _ _));refine bodyPost_ret (aQ (fn:=Tryz.f106) rfl _ _ (w.heap.size+1) 0 0 (.slice none 0 0) rfl (Blk.row HF.o.R _)) rfl ?_;exact dF HF.o.R HF.o.B (by omega) (by decide)
   have q1:=(aO hzl).1;clear hzl;have f12:=HF.o.X.free 12;have HZ8:=Hd (show zs.length≤8 by have:=HY.o;have h8:ds.length≤8:=HK2.o.1;omega);go_upto_region 13 with fail;clear q1 k1 x12 f12;have F9:=Hd (HF.o.Es (HO.o.low hwl) HZ8.o);clear HF HO;generalize wr.setCell ⟨gp,12,none⟩ (.slice A0 zs.length c0)=w9 at *;have FH:=Hd F9.o.h;go_wp2_with (first | ((with_reducible refine ax ?_ 45 (.tmp 3) ?_ F9.o.V ?_ _ Tryz.underlying45 ?_ ?_ ?_);(iterate 4 rfl);exact aK _ _ _) | ((with_reducible refine ax ?_ 29 (.tmp 8) ?_ F9.o.X ?_ _ Tryz.underlying29 ?_ ?_ ?_);(iterate 4 rfl);exact gU _ _));refine (zN a b ps A n c HN.o HL.o HK.o ⟨y.p,zs,A0,c0⟩ F9.o.k w.heap.size w9 (F9.o.D.more F9.o.B.size) F9.o.P F9.o.B.size).mono ?_;rintro e w5 ⟨A5,n5,c5,zs,rfl,hO,hb5,_⟩;have R5:=Hd (F9.o.R.below hb5);have B5:=Hd (aa F9.o.B hb5);have O5:=Hd hO;clear hO hb5 F9;go_wp2_with ((with_reducible refine ae ?_ 45 (.tmp 6) (.tmp 55) ?_ R5.o (tbC a b (.slice A5 n5 c5)) ?_ ?_ ?_ ?_ ?_ ?_);(iterate 4 rfl);(exact aK _ _ _);rfl;(exact aN _ _ _ _ _));refine bodyPost_ret (aQ (fn:=Tryz.f106) rfl _ _ (w.heap.size+1) a b (.slice A5 n5 c5) rfl (Blk.row R5.o _)) rfl ?_;exact jK O5.o R5.o B5.o (by omega)
structure Fo where
 dd:Int
 di:Int
 nm:ByteArray
 fd:Int
 fi:Int
 ex:Bool
 sl:Bool
 pa:ByteArray
abbrev foC (x:Fo):Array Value:=#[.int .i64 x.dd, .int .i64 x.di, .string x.nm, .int .i64 x.fd, .int .i64 x.fi, .bool x.ex, .bool x.sl, .string x.pa]
def zFo:Fo:=⟨0,0,⟨#[]⟩,0,0,false,false,⟨#[]⟩⟩
theorem dI (x:Fo):(Tryz.prog.info? 117).map (·.size)=some (foC x).size:=by show _=some 8;kernel_rfl
theorem bH (x:Fo):(foC x).all (·.oneCell')=true:=by simp [Value.oneCell']
theorem dW {fn:Func} {i j:Nat} (h:fn.results=#[.cell i 117, .tmp j]) (tmps:Array Value) (w:World) (g:Nat) (x:Fo) (hp:tmps.getD i undef= .pointer (some ⟨g,0,none⟩)) (hg:Blk w g 117 (foC x)):
  (results fn tmps).run Tryz.prog w= .ok (.tuple #[.agg (foC x),tmps.getD j undef]) w:=by
 have hp' :tmps[i]?.getD undef= .pointer (some ⟨g,0,none⟩):=by simpa using hp
 simp [results,h,hp',asAddr,run_loadVar_row w g 117 117 (foC x) (0,0) _ hg Tryz.underlying117 rfl (dI x)]
def rW:El ByteArray where
 C s:= [.string s]
 e:=9
 sl:=31
 sz:=1
 bs:=16
 len _:=rfl
 one x u hu:=by simp at hu;rw [hu];rfl
 pos:=by omega
 small:=by omega
 hu:=Tryz.underlying31
 info:=by
  obtain ⟨i0,h1,h2,h3,h4⟩:=info_parts Tryz.CJ;exact ⟨i0,_,h1,h2,h3,h4,rfl⟩
theorem vB {w:World} {base:Nat} {v:Value} {L:List ByteArray} (h:cO w base v L):ay rW w base v L:=by
 have e:∀ M:List ByteArray,M.flatMap rW.C=M.map Value.string:=fun M=>by
  induction M with
  | nil=>rfl
  | cons a r ih=>rw [List.flatMap_cons,List.map_cons,ih];rfl
 unfold ay;unfold cO at h;rw [e];exact h
theorem xB {w:World} {a:Addr} {s:ByteArray} (h:∀ j,j < 1→w.cell? (a.add j)=(rW.C s)[j]?):w.cell? a=some (.string s):=h 0 (by omega)
structure PiF (wr:World) (gd go:Nat) (A:Option Addr) (c:Nat) (L:List ByteArray):Prop where
 at_:AtE rW wr wr.heap.size A L
 far:∀ ad,A=some ad→ad.block≠gd∧ad.block≠go
 cap:L.length≤c
 siz:∀ x∈L,x.size≤128
theorem PiF.below {wr w' :World} {gd go c:Nat} {A:Option Addr} {L:List ByteArray} (h:PiF wr gd go A c L) (hb:Below wr.heap.size wr w'):PiF w' gd go A c L:=⟨h.at_.below hb,h.far,h.cap,h.siz⟩
theorem PiF.row {wr:World} {gd go c k:Nat} {A:Option Addr} {L:List ByteArray} (h:PiF wr gd go A c L) (hk:k=gd∨k=go) (cs:Array Value):PiF (wr.setRow k cs) gd go A c L:=by
 refine ⟨fun q hq=>?_,h.far,h.cap,h.siz⟩;obtain ⟨ad,e,hl,hc⟩:=h.at_ q hq;refine ⟨ad,e,by rw [setRow_size];exact hl,fun j hj=>?_⟩;rw [← hc j hj];refine World.cell?_of_block (setRow_other wr k _ cs ?_);rw [az,az];have:=h.far ad e;rcases hk with rfl | rfl
 · exact this.1
 · exact this.2
theorem PiF.nil (wr:World) (gd go c:Nat) (A:Option Addr) (h:∀ ad,A=some ad→ad.block≠gd∧ad.block≠go):PiF wr gd go A c []:=⟨AtE.nil,h,Nat.zero_le _,fun x hx=>by cases hx⟩
theorem PiF.tail {wr:World} {gd go c:Nat} {a:Addr} {x:ByteArray} {L:List ByteArray} (h:PiF wr gd go (some a) c (x :: L)):PiF wr gd go (some (a.add 1)) (c - 1) L:=by
 refine ⟨fun q hq=>?_,fun ad e=>?_,by have:=h.cap;rw [List.length_cons] at this;omega,fun y hy=>h.siz y (List.mem_cons_of_mem _ hy)⟩
 · obtain ⟨ad,e,hl,hc⟩:=h.at_ (q+1) (by simpa using hq);injection e with e;subst e;refine ⟨a.add 1,rfl,by rw [az];exact hl,fun j hj=>?_⟩;have:=hc j hj;rw [Addr.add_add] at this ⊢;rw [Addr.add_add];have e2:1+(q * rW.sz+j)=(q+1) * rW.sz+j:=(by show 1+(q * 1+j)=(q+1) * 1+j;omega);rw [e2];exact this
 · injection e with e;subst e;rw [az];exact h.far a rfl
theorem PiF.own {wr:World} {base gd go c n:Nat} {A:Option Addr} {L:List ByteArray} (h:ay rW wr base (.slice A n c) L) (hb:∀ q,(Value.slice A n c).ownBlock=some q→q≠gd∧q≠go) (hs:∀ x∈L,x.size≤128):PiF wr gd go A c L∧n=L.length:=by
 rcases Joins.ownsRow_forms h with ⟨e,e0⟩ | ⟨g,cap,e⟩
 · injection e with e1 e2 e3;have:L= []:=List.eq_nil_of_length_eq_zero e0;subst this;subst e1;exact ⟨PiF.nil _ _ _ _ _ (fun _ e=>by cases e),e2⟩
 · injection e with e1 e2 e3;subst e1;refine ⟨⟨aT h,fun ad e=>?_,?_,hs⟩,e2⟩
   · injection e with e;subst e;exact hb g rfl
   · rcases h.2 with ⟨e,_⟩ | ⟨g1,c1,GI,e,_,_,h2,_⟩
     · cases e
     · injection e with _ _ e;subst e;exact h2
structure FdF (w wr:World) (A:Option Addr) (n c:Nat) (ds:List Dm) (Am:Option Addr) (nm cm:Nat) (ms:List Mt) (d i:Int):Prop where
 f:SrF w wr A n c ds Am nm cm ms d i
 R:Blk wr (w.heap.size+1+1) 117 (foC zFo)
section
variable {w wr w' :World} {A Am:Option Addr} {n c nm cm gd go:Nat} {ds:List Dm} {ms:List Mt} {d i:Int}
theorem FdF.grow (h:FdF w wr A n c ds Am nm cm ms d i) (hb:Below wr.heap.size wr w'):FdF w w' A n c ds Am nm cm ms d i:=⟨h.f.grow hb,h.R.below hb⟩
theorem FdF.alloc (h:FdF w wr A n c ds Am nm cm ms d i) (o:Obj):FdF w (wr.alloc o) A n c ds Am nm cm ms d i:=h.grow ((Below.refl _ _).alloc (Nat.le_refl _) _)
theorem FdF.row (h:FdF w wr A n c ds Am nm cm ms d i) {k:Nat} (hk:w.heap.size+1+1 < k) (cs:Array Value):FdF w (wr.setRow k cs) A n c ds Am nm cm ms d i:=by
 have hgx:=aA wr k cs;have hb:Below (w.heap.size+1+1+1) wr (wr.setRow k cs):=(Below.refl _ wr).grown hgx (by have:=h.R.lt;omega) (fun q e=>by injection e with e;omega);exact ⟨⟨ai h.f.low (by omega) cs,h.f.src.keep hb (by omega),h.f.mts.keep hb (by omega),h.f.V.keep hb (by omega),h.f.U.keep hb (by omega)⟩,h.R.keep hb (by omega)⟩
def FoP (w:World) (e:Ending) (w' :World):Prop:=∃ (x:Fo) (k:Int),e= .returned (.tuple #[.agg (foC x), .int .i64 k])∧x.nm.size≤12∧x.pa.size≤640∧Below w.heap.size w w'
theorem FdF.err (h:FdF w wr A n c ds Am nm cm ms d i) (k:Int):FoP w (.returned (.tuple #[.agg (foC zFo), .int .i64 k])) (wr.setRow (w.heap.size+1+1) (foC zFo)):=⟨zFo,k,rfl,Nat.zero_le _,Nat.zero_le _,ai h.f.low (by omega) _⟩
structure FiF (w wr:World) (A:Option Addr) (n c:Nat) (ds:List Dm) (Am:Option Addr) (nm cm:Nat) (ms:List Mt) (d i:Int) (gd go:Nat):Prop where
 f:FdF w wr A n c ds Am nm cm ms d i
 D:∃ a b:Int,Blk wr gd 26 #[.int .i64 a, .int .i64 b]
 O:∃ x:Fo,Blk wr go 117 (foC x)∧x.nm.size≤12∧x.pa=⟨#[]⟩
 h1:w.heap.size+1+1 < gd
 h2:gd < go
theorem FiF.grow (h:FiF w wr A n c ds Am nm cm ms d i gd go) (hb:Below wr.heap.size wr w'):FiF w w' A n c ds Am nm cm ms d i gd go:=by
 obtain ⟨a,b,hD⟩:=h.D;obtain ⟨x,hO,hx⟩:=h.O;exact ⟨h.f.grow hb,⟨a,b,hD.below hb⟩,⟨x,hO.below hb,hx⟩,h.h1,h.h2⟩
theorem FiF.alloc (h:FiF w wr A n c ds Am nm cm ms d i gd go) (o:Obj):FiF w (wr.alloc o) A n c ds Am nm cm ms d i gd go:=h.grow ((Below.refl _ _).alloc (Nat.le_refl _) _)
theorem FiF.dir (h:FiF w wr A n c ds Am nm cm ms d i gd go) (a b:Int):FiF w (wr.setRow gd #[.int .i64 a, .int .i64 b]) A n c ds Am nm cm ms d i gd go:=by
 obtain ⟨_,_,hD⟩:=h.D;obtain ⟨x,hO,hx⟩:=h.O;have h1:=h.h1;have h2:=h.h2;exact ⟨h.f.row h1 _,⟨a,b,hD.row _⟩,⟨x,hO.ah _ (by omega),hx⟩,h1,h2⟩
theorem FiF.o (h:FiF w wr A n c ds Am nm cm ms d i gd go) (x:Fo) (hx:x.nm.size≤12∧x.pa=⟨#[]⟩):FiF w (wr.setRow go (foC x)) A n c ds Am nm cm ms d i gd go:=by
 obtain ⟨a,b,hD⟩:=h.D;obtain ⟨_,hO,_⟩:=h.O;have h1:=h.h1;have h2:=h.h2;exact ⟨h.f.row (by omega) _,⟨a,b,hD.ah _ (by omega)⟩,⟨x,hO.row _,hx⟩,h1,h2⟩
end
theorem FdF.only {w wr w' :World} {A Am:Option Addr} {n c nm cm:Nat} {ds:List Dm} {ms:List Mt} {d i:Int} (h:FdF w wr A n c ds Am nm cm ms d i) {k:Nat} (hk:w.heap.size+1+1 < k) (hg:wr.grownBy w' (some k)):FdF w w' A n c ds Am nm cm ms d i:=by
 have hb:Below (w.heap.size+1+1+1) wr w' :=(Below.refl _ wr).grown hg (by have:=h.R.lt;omega) (fun q e=>by injection e with e;omega);exact ⟨⟨h.f.low.trans (hb.mono (by omega)),h.f.src.keep hb (by omega),h.f.mts.keep hb (by omega),h.f.V.keep hb (by omega),h.f.U.keep hb (by omega)⟩,h.R.keep hb (by omega)⟩
section
variable {w wr w' :World} {A Am:Option Addr} {n c nm cm gd go:Nat} {ds:List Dm} {ms:List Mt} {d i:Int}
theorem FiF.Jk (h:FiF w wr A n c ds Am nm cm ms d i gd go) (hg:wr.grownBy w' (some gd)) {a b:Int} (hD:Blk w' gd 26 #[.int .i64 a, .int .i64 b]):FiF w w' A n c ds Am nm cm ms d i gd go:=by
 obtain ⟨x,hO,hx⟩:=h.O;have h1:=h.h1;have h2:=h.h2;exact ⟨h.f.only h1 hg,⟨a,b,hD⟩,⟨x,hO.grown hg (fun e=>by injection e with e;omega),hx⟩,h1,h2⟩
theorem PiF.only {A:Option Addr} {c k:Nat} {L:List ByteArray} (h:PiF wr gd go A c L) (hk:k=gd∨k=go) (hg:wr.grownBy w' (some k)):PiF w' gd go A c L:=by
 refine ⟨fun q hq=>?_,h.far,h.cap,h.siz⟩;obtain ⟨ad,e,hl,hc⟩:=h.at_ q hq;refine ⟨ad,e,Nat.lt_of_lt_of_le hl hg.size,fun j hj=>?_⟩;rw [← hc j hj];refine World.cell?_of_block (hg.block _ (by rw [az,az];exact hl) ?_);rw [az,az];have:=h.far ad e;intro e2;injection e2 with e2;rcases hk with rfl | rfl
 · exact this.1 e2
 · exact this.2 e2
end
def xC:Value→Nat | .slice _ n _=>n | _=>0
theorem Tryz.zY:(Tryz.prog.info? 77).map (fun i=>(i.zero,i.size,i.bytes))=some (some (.agg ry),13,128):=by kernel_rfl
def kF:El (Itm×aS) where
 C p:=(aG p.1 p.2).toList
 e:=77
 sl:=34
 sz:=13
 bs:=128
 len _:=rfl
 one p u hu:=by
  have:=mM p.1 p.2;rw [← Array.all_toList,List.all_eq_true] at this;exact this u hu
 pos:=by omega
 small:=by omega
 hu:=Tryz.underlying34
 info:=by
  obtain ⟨i0,h1,h2,h3,h4⟩:=info_parts Tryz.zY;exact ⟨i0,_,h1,h2,h3,h4,rfl⟩
end Go.Proofs.YtnpaoepkpdileaaGreatDoor
