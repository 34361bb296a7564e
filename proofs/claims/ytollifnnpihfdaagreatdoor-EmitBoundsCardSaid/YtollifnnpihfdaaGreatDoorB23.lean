import Derived.Test.YtollifnnpihfdaaGreatDoorB22
set_option maxRecDepth 100000
set_option maxHeartbeats 64000000
set_option linter.all false
namespace Go.Proofs.YtollifnnpihfdaaGreatDoor
open Go.RowKit
structure GtF (w wr:World) (gr gp:Nat) (a b:Int) (A:Option Addr) (n c:Nat) (ps:List Pm) (x:Pm):Prop where
 V:Blk wr w.heap.size 34 (tbC a b (.slice A n c))
 R:Blk wr gr 34 (tbC 0 0 (.slice none 0 0))
 X:Blk wr gp 47 (psC x.p (.slice x.A x.ds.length x.c))
 P:ax EDs wr w.heap.size x.sl x.ds
 D:jZ wr w.heap.size A ps
 B:Below w.heap.size w wr
 h:w.heap.size < gr∧gr < gp
 k:x.Ok
theorem GtF.below {w wr w' :World} {gr gp n c:Nat} {a b:Int} {A:Option Addr} {ps:List Pm} {x:Pm} (h:GtF w wr gr gp a b A n c ps x) (hb:Below wr.heap.size wr w'):GtF w w' gr gp a b A n c ps x:=
 ⟨h.V.below hb,h.R.below hb,h.X.below hb,h.P.below hb,h.D.keep hb h.B.size,aa h.B hb,h.h,h.k⟩
theorem GtF.set {w wr:World} {gr gp n c i:Nat} {a b:Int} {A A2:Option Addr} {c2:Nat} {ds:List Ds} {ps:List Pm} {p p' :Pc} {v:Value} (h:GtF w wr gr gp a b A n c ps ⟨p,ds,A2,c2⟩) (e:(psC p (.slice A2 ds.length c2)).setIfInBounds i v=psC p' (.slice A2 ds.length c2)) (hk:p'.co.size≤640∧p'.ex.size≤640):
  GtF w (wr.setCell ⟨gp,i,none⟩ v) gr gp a b A n c ps ⟨p',ds,A2,c2⟩:=by
 have hh:=h.h;have hX:Blk (wr.setCell ⟨gp,i,none⟩ v) gp 47 (psC p' (.slice A2 ds.length c2)):=by
  have h1:=h.X.put i v;rw [e] at h1;exact h1
 exact ⟨h.V.af _ (by show w.heap.size≠gp;omega),h.R.af _ (by show gr≠gp;omega),hX,h.P.bH (g:=gp) (i:=i) (ay h.P h.X (by decide)) v,h.D.keep ((Below.refl _ wr).setCell (p:=⟨gp,i,none⟩) (by show w.heap.size≤gp;omega) v) (Nat.le_refl _),h.B.setCell (p:=⟨gp,i,none⟩) (by show w.heap.size≤gp;omega) v,hh,h.k.1,hk⟩
def TbP (w:World) (e:Ending) (w' :World):Prop:=∃ (a b:Int) (A:Option Addr) (n c:Nat) (k:Int),e= .returned (.tuple #[.agg (tbC a b (.slice A n c)), .int .i64 k])∧Below w.heap.size w w' ∧(k=0→∃ ps,aJ w' w.heap.size (.slice A n c) ps)
theorem dx {w wr:World} {gr:Nat} (R:Blk wr gr 34 (tbC 0 0 (.slice none 0 0))) (hB:Below w.heap.size w wr) (hg:w.heap.size≤gr) {k:Int} (hk:k≠0):TbP w (.returned (.tuple #[.agg (tbC 0 0 (.slice none 0 0)), .int .i64 k])) (wr.setRow gr (tbC 0 0 (.slice none 0 0))):=
 ⟨0,0,none,0,0,k,rfl,ai hB hg _,fun h=>absurd h hk⟩
theorem j6 {w w3:World} {gr n c:Nat} {a b:Int} {A:Option Addr} {zs:List Pm} (hO:aJ w3 w.heap.size (.slice A n c) zs) (R:Blk w3 gr 34 (tbC 0 0 (.slice none 0 0))) (hB:Below w.heap.size w w3) (hg:w.heap.size≤gr):
  TbP w (.returned (.tuple #[.agg (tbC a b (.slice A n c)), .int .i64 0])) (w3.setRow gr (tbC a b (.slice A n c))):=
 ⟨a,b,A,n,c,0,rfl,ai hB hg _,fun _=>⟨zs,hO.far (aA w3 gr _) (fun q e=>by injection e with e;subst e;exact hO.blk R (by decide) (by decide))⟩⟩
def JG (w:World) (e:Ending) (w' :World):Prop:=∃ (a b:Int) (A:Option Addr) (n c:Nat) (j k:Int),e= .returned (.tuple #[.agg (tbC a b (.slice A n c)), .int .i64 j, .int .i64 k])∧Below w.heap.size w w' ∧(k=0→∃ ps,aJ w' w.heap.size (.slice A n c) ps)
theorem jP {fn:Func} {i j k:Nat} (h:fn.results=#[.cell i 34, .tmp j, .tmp k]) (tmps:Array Value) (w:World) (g:Nat) (a b:Int) (v:Value) (hp:tmps.getD i undef= .pointer (some ⟨g,0,none⟩)) (hg:Blk w g 34 (tbC a b v)):
  (results fn tmps).run Tryz.prog w= .ok (.tuple #[.agg (tbC a b v),tmps.getD j undef,tmps.getD k undef]) w:=by
 have hp' :tmps[i]?.getD undef= .pointer (some ⟨g,0,none⟩):=by simpa using hp
 simp [results,h,hp',asAddr,run_loadVar_row w g 34 34 (tbC a b v) (0,0) _ hg Tryz.underlying34 rfl (aK a b v)]
theorem nV {w wr:World} {gr:Nat} (hB:Below w.heap.size w wr) (hg:w.heap.size≤gr) (j:Int) {k:Int} (hk:k≠0):JG w (.returned (.tuple #[.agg (tbC 0 0 (.slice none 0 0)), .int .i64 j, .int .i64 k])) (wr.setRow gr (tbC 0 0 (.slice none 0 0))):=
 ⟨0,0,none,0,0,j,k,rfl,ai hB hg _,fun h=>absurd h hk⟩
theorem wI {w w3:World} {gr n c:Nat} {a b:Int} {A:Option Addr} {zs:List Pm} (hO:aJ w3 w.heap.size (.slice A n c) zs) (R:Blk w3 gr 34 (tbC 0 0 (.slice none 0 0))) (hB:Below w.heap.size w w3) (hg:w.heap.size≤gr) (j:Int):
  JG w (.returned (.tuple #[.agg (tbC a b (.slice A n c)), .int .i64 j, .int .i64 0])) (w3.setRow gr (tbC a b (.slice A n c))):=
 ⟨a,b,A,n,c,j,0,rfl,ai hB hg _,fun _=>⟨zs,hO.far (aA w3 gr _) (fun q e=>by injection e with e;subst e;exact hO.blk R (by decide) (by decide))⟩⟩
theorem GtF.KF {w wr:World} {gr gp go n c i:Nat} {a b:Int} {A:Option Addr} {ps:List Pm} {x:Pm} {t:TypeId} {cs:Array Value} (h:GtF w wr gr gp a b A n c ps x) (hG:Blk wr go t cs) (ht:(EDs.e:TypeId)≠t) (hgo:gp < go) (u:Value):GtF w (wr.setCell ⟨go,i,none⟩ u) gr gp a b A n c ps x:=by
 have hh:=h.h;exact ⟨h.V.af _ (by show w.heap.size≠go;omega),h.R.af _ (by show gr≠go;omega),h.X.af _ (by show gp≠go;omega),h.P.bH (g:=go) (i:=i) (ay h.P hG ht) u,h.D.keep ((Below.refl _ wr).setCell (p:=⟨go,i,none⟩) (by show w.heap.size≤go;omega) u) (Nat.le_refl _),h.B.setCell (p:=⟨go,i,none⟩) (by show w.heap.size≤go;omega) u,hh,h.k⟩
theorem Gw (a b:Int) (ps:List Pm) (A:Option Addr) (n c:Nat) (hn:n=ps.length) (hl:n≤16) (hk:∀ x∈ps,x.Ok) (pid:Int) (w:World) (h:jZ w w.heap.size A ps):
   Calls Tryz.prog 208 #[.agg (tbC a b (.slice A n c)), .int .i64 pid] w (JG w):=by
 have HN:=Hd hn;have HL:=Hd hl;have HK:=Hd hk;have hb0:=aT w (tbC a b (.slice A n c)) (tbC 0 0 (.slice none 0 0)) 34 34;have h2:=Blk.new (w.alloc (.cells (tbC a b (.slice A n c)) 34)) (tbC 0 0 (.slice none 0 0)) 34;simp only [World.size_alloc] at h2;have B0:=Hd hb0;have V0:=Hd ((Blk.new w (tbC a b (.slice A n c)) 34).alloc (.cells (tbC 0 0 (.slice none 0 0)) 34));have R0:=Hd h2;have D0:=Hd (h.keep hb0 (Nat.le_refl _));clear h hn hl hk hb0 h2;go_in;go_upto_region 1 with fail;generalize ((w.alloc (.cells (tbC a b (.slice A n c)) 34)).alloc (.cells (tbC 0 0 (.slice none 0 0)) 34))=w0 at *;go_wp2_with ((with_reducible refine az ?_ 34 (.tmp 2) ?_ V0.o ?_ _ Tryz.underlying34 ?_ ?_ ?_);(iterate 4 rfl);exact aK _ _ _);refine (ky a b pid ps A n c HN.o w0 (D0.o.more B0.o.size)).mono ?_;rintro e w1 ⟨hb1,rfl | ⟨y,hy,A2,c2,rfl,ho⟩⟩
 · have hba:=(Below.refl w1.heap.size w1).alloc (Nat.le_refl _) (.cells (psC zPc (.slice none 0 0)) 47);have hbb:=aa hb1 hba;have R1:=Hd (R0.o.below hbb);have B1:=Hd (aa B0.o hbb);clear hba hbb hb1 V0 R0 B0 D0;go_wp2_with ((with_reducible refine ae ?_ 34 (.tmp 4) (.tmp 18) ?_ R1.o (tbC 0 0 (.slice none 0 0)) ?_ ?_ ?_ ?_ ?_ ?_);(iterate 4 rfl);(exact aK _ _ _);rfl;(exact aO _ _ _ _ _));refine bodyPost_ret (jP (fn:=Tryz.f208) rfl _ _ (w.heap.size+1) 0 0 (.slice none 0 0) rfl (Blk.row R1.o _)) rfl ?_;exact nV B1.o (by omega) _ (by decide)
 · have hba:=(Below.refl w1.heap.size w1).alloc (Nat.le_refl _) (.cells (psC y.p (.slice A2 y.ds.length c2)) 47);have hbb:=aa hb1 hba;have hr1:=(R0.o.below hb1).lt;have F1:=Hd (show GtF w (w1.alloc (.cells (psC y.p (.slice A2 y.ds.length c2)) 47)) (w.heap.size+1) w1.heap.size a b A n c ps ⟨y.p,y.ds,A2,c2⟩ from ⟨V0.o.below hbb,R0.o.below hbb,Blk.new w1 _ _,(ho.low B0.o.size).below hba,D0.o.keep hbb B0.o.size,aa B0.o hbb,⟨by omega,hr1⟩,HK.o y hy⟩);clear hba hbb hb1 V0 R0 B0 D0 ho hr1 hy;go_upto_region 4 with fail;generalize w1.alloc (.cells (psC y.p (.slice A2 y.ds.length c2)) 47)=w2 at *;generalize w1.heap.size=gp at *;have HK2:=Hd F1.o.k;have v2:=F1.o.V.cell 2;have v0:=F1.o.V.cell 0;go_cut [27] (fun u wx=>∃ bb:Bool,u= .bool bb∧(bb=false→n < 16)∧w2=wx);case first=>
     by_cases h16:n < 16;case pos=>
       have q1:¬ (16:Int)≤(n:Int):=(by omega);go_wp2_with fail;go_meet;exact ⟨_,rfl,(fun _=>h16),rfl⟩
     case neg=>
       have q1:(16:Int)≤(n:Int):=(by omega);go_wp2_with fail;go_meet;exact ⟨true,rfl,(fun h=>nomatch h),rfl⟩
   case rest=>
   obtain ⟨bb,rfl,hbb,rfl⟩:=hcut;clear v2;cases bb;case true=>
     clear hbb v0;go_wp2_with ((with_reducible refine ae ?_ 34 (.tmp 4) (.tmp 28) ?_ F1.o.R (tbC 0 0 (.slice none 0 0)) ?_ ?_ ?_ ?_ ?_ ?_);(iterate 4 rfl);(exact aK _ _ _);rfl;(exact aO _ _ _ _ _));refine bodyPost_ret (jP (fn:=Tryz.f208) rfl _ _ (w.heap.size+1) 0 0 (.slice none 0 0) rfl (Blk.row F1.o.R _)) rfl ?_;exact nV F1.o.B (by omega) _ (by decide)
   have H16:=Hd (hbb rfl);clear hbb;have c0:=F1.o.X.cell 0;have f0:=F1.o.X.free 0;have c1:=F1.o.X.cell 1;have f1:=F1.o.X.free 1;have F3:=Hd ((F1.o.set (i:=0) (v:= .int .i64 a) (p' := { y.p with pid:=a }) rfl HK2.o.2).set (i:=1) (v:= .int .i64 pid) (p' := { { y.p with pid:=a } with pp:=pid }) rfl HK2.o.2);go_upto_region 7 with fail;clear F1 v0 c0 f0 c1 f1;generalize (w2.setCell ⟨gp,0,none⟩ (.int .i64 a)).setCell ⟨gp,1,none⟩ (.int .i64 pid)=w3 at *;generalize ({ { y.p with pid:=a } with pp:=pid } :Pc)=p3 at *;go_wp2_with ((with_reducible refine az ?_ 34 (.tmp 2) ?_ F3.o.V ?_ _ Tryz.underlying34 ?_ ?_ ?_);(iterate 4 rfl);exact aK _ _ _);refine (su a b ps A n c HN.o HL.o HK.o w3 (F3.o.D.more F3.o.B.size)).mono ?_;rintro e w5 ⟨A5,n5,c5,zs,rfl,hO,hb5,hm⟩;have hba:=(Below.refl w5.heap.size w5).alloc (Nat.le_refl _) (.cells (tbC a b (.slice A5 n5 c5)) 34);have HQ:=Hd (show (Value.slice A5 n5 c5).ownBlock≠some gp from fun e=>by have:=hO.own.ge _ e;have:=F3.o.X.lt;omega);have hgo:gp < w5.heap.size:=Nat.lt_of_lt_of_le F3.o.X.lt hb5.size;have F6:=Hd ((F3.o.below hb5).below hba);have O6:=Hd ((hO.low F3.o.B.size).below hba);have G6:=Hd (Blk.new w5 (tbC a b (.slice A5 n5 c5)) 34);have HZL:=Hd (show zs.length+1≤16 by have:=H16.o;omega);clear hba hb5 hO hm F3;go_upto_region 8 with fail;generalize w5.alloc (.cells (tbC a b (.slice A5 n5 c5)) 34)=w6 at *;generalize w5.heap.size=go at *;have c0:=G6.o.cell 0;have f0:=G6.o.free 0;go_upto_region 9 with fail;clear c0 f0;have F7:=Hd (F6.o.KF (i:=0) G6.o (by decide) hgo (.int .i64 (wrap64 (a+1))));have G7:=Hd (show Blk (w6.setCell ⟨go,0,none⟩ (.int .i64 (wrap64 (a+1)))) go 34 (tbC (wrap64 (a+1)) b (.slice A5 n5 c5)) from G6.o.put 0 _);have O7:=Hd (O6.o.far (av w6 go 0 (.int .i64 (wrap64 (a+1)))) (fun q e=>by injection e with e;subst e;exact O6.o.blk G6.o (by decide) (by decide)));clear F6 G6 O6;generalize wrap64 (a+1)=a7 at *;generalize w6.setCell ⟨go,0,none⟩ (.int .i64 a7)=w7 at *;have hba:=(Below.refl w7.heap.size w7).alloc (Nat.le_refl _) (.cells (psC p3 (.slice A2 y.ds.length c2)) 47);have F8:=Hd (F7.o.below hba);have O8:=Hd (O7.o.below hba);have G8:=Hd (G7.o.below hba);have RW:=Hd (aI EPc w7 (psC p3 (.slice A2 y.ds.length c2)) 47 (⟨p3,y.ds,A2,c2⟩:Pm) rfl (Nat.lt_succ_self w7.heap.size));have g2:=G7.o.cell 2;clear hba;go_wp2_with (first | ((with_reducible refine az ?_ 47 (.tmp 7) ?_ F7.o.X ?_ _ Tryz.underlying47 ?_ ?_ ?_);(iterate 4 rfl);exact ig _ _) | (at_builtin;refine aj EPc rfl (.tmp 41) (.tmp 43) rfl w.heap.size (.slice A5 n5 c5) zs rfl O8.o.own (w7.heap.size+1) (some ⟨w7.heap.size,0,none⟩) 1 1 [(⟨p3,y.ds,A2,c2⟩:Pm)] rfl rfl RW.o (by have:=HZL.o;simp;omega) F8.o.B.size ?_));intro v9 w9 ho9 hg9 qO;clear g2;obtain ⟨A9,c9,e9,_⟩:=ho9.at;rw [show (zs ++ [(⟨p3,y.ds,A2,c2⟩:Pm)]).length=zs.length+1 by simp] at e9;subst e9;have O9:=Hd (O8.o.apps (ys:= [(⟨p3,y.ds,A2,c2⟩:Pm)]) (fun z hz=>by rw [List.mem_singleton.1 hz];exact ⟨F8.o.P,F8.o.k⟩) ho9 hg9 (by rw [List.length_append];exact HZL.o));have G9:=Hd (G8.o.grown hg9 (ay O8.o.own G8.o (by decide)));have R9:=Hd (F8.o.R.grown hg9 (ay O8.o.own F8.o.R (by decide)));have X9:=Hd (F8.o.X.grown hg9 HQ.o);have B9:=Hd (F8.o.B.grown hg9 F8.o.B.size (fun q e=>O8.o.own.ge q e));have FH:=Hd F8.o.h;clear ho9 hg9 qO RW F7 O7 G7 F8 O8 G8;have c2' :=G9.o.cell 2;have f2:=G9.o.free 2;generalize zs.length+1=yl at *;go_upto_region 10 with fail;clear c2' f2;have hfh:=FH.o;have O10:=Hd (O9.o.far (av w9 go 2 (.slice A9 yl c9)) (fun q e=>by injection e with e;subst e;exact O9.o.blk G9.o (by decide) (by decide)));have G10:=Hd (show Blk (w9.setCell ⟨go,2,none⟩ (.slice A9 yl c9)) go 34 (tbC a7 b (.slice A9 yl c9)) from G9.o.put 2 _);have R10:=Hd (R9.o.af (p:=⟨go,2,none⟩) (.slice A9 yl c9) (by show w.heap.size+1≠go;omega));have X10:=Hd (X9.o.af (p:=⟨go,2,none⟩) (.slice A9 yl c9) (by show gp≠go;omega));have B10:=Hd (B9.o.setCell (p:=⟨go,2,none⟩) (by show w.heap.size≤go;omega) (.slice A9 yl c9));clear O9 G9 R9 X9 B9;generalize w9.setCell ⟨go,2,none⟩ (.slice A9 yl c9)=w10 at *;refine wp_region_held_drew (S:=(fun W=>Blk W go 34 (tbC a7 b (.slice A9 yl c9))∧Blk W gp 47 (psC p3 (.slice A2 y.ds.length c2)))) (by kernel_rfl) ⟨G10.o,X10.o⟩ (fun hHeld=>?_);have hbd:=(Below.refl w10.heap.size w10).drew;have R11:=Hd (R10.o.below hbd);have O11:=Hd (O10.o.below hbd);have B11:=Hd (aa B10.o hbd);clear hbd R10 O10 B10;have hh:=hHeld;generalize w10.drew=w11 at *;refine tk hHeld 0 ?_ ?_ (tk hHeld 1 ?_ ?_ (tk hHeld 2 ?_ ?_ ?_));iterate 3
     rotate_left
     · intro W hSw;obtain ⟨z0,z1⟩:=hSw;have v0:=z0.cell 0;have v1:=z0.cell 1;have v2:=z0.cell 2;have x0:=z1.cell 0;go_simp;try (with_reducible rfl)
   refine rdy1 3 (fun K hK=>?_);refine ag (by rfl) 34 (.tmp 4) (.tmp 46) (by rfl) R11.o (tbC a7 b (.slice A9 yl c9)) ?_ ?_ (aK _ _ _) rfl (aO _ _ _ _ _) ?_
   · go_simp
   · go_simp
   refine hK.o _ _ ⟨hHeld.1.ah _ (by omega),hHeld.2.ah _ (by omega)⟩ (fun hHeld=>?_);clear hK K;refine tk hHeld 4 ?_ ?_ (tk hHeld 5 ?_ ?_ ?_);iterate 2
     rotate_left
     · intro W hSw;go_simp;try (with_reducible rfl)
   refine wpAnyH_done (by kernel_rfl) ?_ _;go_simp;go_wp2_with fail;refine bodyPost_ret (jP (fn:=Tryz.f208) rfl _ _ (w.heap.size+1) a7 b (.slice A9 yl c9) rfl (Blk.row R11.o _)) rfl ?_;exact wI O11.o R11.o B11.o (by omega) _
theorem nW {w:World} {a:Addr} {x:Ds} (h:∀ j,j < 4→w.cell? (a.add j)=(EDs.C x)[j]?):w.cell? a=some (.int .i64 x.fd)∧w.cell? ⟨a.block,a.off+1,none⟩=some (.int .i64 x.d)∧w.cell? ⟨a.block,a.off+2,none⟩=some (.int .i64 x.i)∧w.cell? ⟨a.block,a.off+3,none⟩=some (.int .i64 x.fl):=
 ⟨h 0 (by omega),h 1 (by omega),h 2 (by omega),h 3 (by omega)⟩
theorem GtF.grown {w wr w' :World} {gr gp lo n c:Nat} {a b:Int} {A:Option Addr} {ps:List Pm} {x:Pm} (h:GtF w wr gr gp a b A n c ps x) {row:Option Nat} (hg:wr.grownBy w' row) (hr:∀ q,row=some q→lo≤q) (hl:gp < lo) (hp:∀ q,x.sl.ownBlock=some q→q < lo):GtF w w' gr gp a b A n c ps x:=by
 have hh:=h.h;exact ⟨h.V.grown hg (fun e=>by have:=hr _ e;omega),h.R.grown hg (fun e=>by have:=hr _ e;omega),h.X.grown hg (fun e=>by have:=hr _ e;omega),h.P.far hg (fun q e r=>by have:=hp q e;have:=hr q r;omega),h.D.keep ((Below.refl _ wr).grown hg h.B.size (fun q e=>by have:=hr q e;omega)) (Nat.le_refl _),h.B.grown hg h.B.size (fun q e=>by have:=hr q e;omega),hh,h.k⟩
theorem GtF.JH {w wr:World} {gr gp n c:Nat} {a b:Int} {A A2 A3:Option Addr} {c2 c3:Nat} {ds zs:List Ds} {ps:List Pm} {p:Pc} (h:GtF w wr gr gp a b A n c ps ⟨p,ds,A2,c2⟩) (ho:ax EDs wr w.heap.size (.slice A3 zs.length c3) zs) (hz:zs.length≤8):
  GtF w (wr.setCell ⟨gp,12,none⟩ (.slice A3 zs.length c3)) gr gp a b A n c ps ⟨p,zs,A3,c3⟩:=by
 have hh:=h.h;have hX:Blk (wr.setCell ⟨gp,12,none⟩ (.slice A3 zs.length c3)) gp 47 (psC p (.slice A3 zs.length c3)):=h.X.put 12 _;exact ⟨h.V.af _ (by show w.heap.size≠gp;omega),h.R.af _ (by show gr≠gp;omega),hX,ho.bH (g:=gp) (i:=12) (ay ho h.X (by decide)) _,h.D.keep ((Below.refl _ wr).setCell (p:=⟨gp,12,none⟩) (by show w.heap.size≤gp;omega) _) (Nat.le_refl _),h.B.setCell (p:=⟨gp,12,none⟩) (by show w.heap.size≤gp;omega) _,hh,hz,h.k.2⟩
theorem qY (a b:Int) (ps:List Pm) (A:Option Addr) (n c:Nat) (hn:n=ps.length) (hl:n≤16) (hk:∀ x∈ps,x.Ok) (pid:Int) (u:Int) (w:World) (h:jZ w w.heap.size A ps):
   Calls Tryz.prog 213 #[.agg (tbC a b (.slice A n c)), .int .i64 pid, .int .i64 u] w (TbP w):=by
 have HN:=Hd hn;have HL:=Hd hl;have HK:=Hd hk;have B0:=Hd (show Below w.heap.size w ((w.alloc (.cells (tbC a b (.slice A n c)) 34)).alloc (.cells (tbC 0 0 (.slice none 0 0)) 34)) from ((Below.refl w.heap.size w).alloc (Nat.le_refl _) _).alloc (by simp) _);have V0:=Hd ((Blk.new w (tbC a b (.slice A n c)) 34).alloc (.cells (tbC 0 0 (.slice none 0 0)) 34));have R0:=Hd (show Blk ((w.alloc (.cells (tbC a b (.slice A n c)) 34)).alloc (.cells (tbC 0 0 (.slice none 0 0)) 34)) (w.heap.size+1) 34 (tbC 0 0 (.slice none 0 0)) by
   have h:=Blk.new (w.alloc (.cells (tbC a b (.slice A n c)) 34)) (tbC 0 0 (.slice none 0 0)) 34;simpa using h)
 have D0:=Hd (h.keep B0.o (Nat.le_refl _));clear h hn hl hk;go_in;go_upto_region 1 with fail;generalize ((w.alloc (.cells (tbC a b (.slice A n c)) 34)).alloc (.cells (tbC 0 0 (.slice none 0 0)) 34))=w0 at *;go_wp2_with ((with_reducible refine az ?_ 34 (.tmp 3) ?_ V0.o ?_ _ Tryz.underlying34 ?_ ?_ ?_);(iterate 4 rfl);exact aK _ _ _);refine (ky a b pid ps A n c HN.o w0 (D0.o.more B0.o.size)).mono ?_;rintro e w1 ⟨hb1,rfl | ⟨y,hy,A2,c2,rfl,ho⟩⟩
 · have hba:=(Below.refl w1.heap.size w1).alloc (Nat.le_refl _) (.cells (psC zPc (.slice none 0 0)) 47);have R1:=Hd ((R0.o.below hb1).below hba);have B1:=Hd (aa (aa B0.o hb1) hba);clear hba hb1 V0 R0 B0 D0;go_wp2_with ((with_reducible refine ae ?_ 34 (.tmp 6) (.tmp 20) ?_ R1.o (tbC 0 0 (.slice none 0 0)) ?_ ?_ ?_ ?_ ?_ ?_);(iterate 4 rfl);(exact aK _ _ _);rfl;(exact aO _ _ _ _ _));refine bodyPost_ret (aS (fn:=Tryz.f213) rfl _ _ (w.heap.size+1) 0 0 (.slice none 0 0) rfl (Blk.row R1.o _)) rfl ?_;exact dx R1.o B1.o (by omega) (by decide)
 · have hba:=(Below.refl w1.heap.size w1).alloc (Nat.le_refl _) (.cells (psC y.p (.slice A2 y.ds.length c2)) 47);have hbb:=aa hb1 hba;have hr1:=(R0.o.below hb1).lt;have F1:=Hd (show GtF w (w1.alloc (.cells (psC y.p (.slice A2 y.ds.length c2)) 47)) (w.heap.size+1) w1.heap.size a b A n c ps ⟨y.p,y.ds,A2,c2⟩ from ⟨V0.o.below hbb,R0.o.below hbb,Blk.new w1 _ _,(ho.low B0.o.size).below hba,D0.o.keep hbb B0.o.size,aa B0.o hbb,⟨by omega,hr1⟩,HK.o y hy⟩);clear hba hbb hb1 V0 R0 B0 D0 ho hr1;go_upto_region 2 with fail;generalize w1.alloc (.cells (psC y.p (.slice A2 y.ds.length c2)) 47)=w2 at *;generalize w1.heap.size=gp at *;have HK2:=Hd F1.o.k;have HPL:=Hd (show ∀ q,(Value.slice A2 y.ds.length c2).ownBlock=some q→q < w2.heap.size from fun q e=>F1.o.P.lt q e);have hgl:gp < w2.heap.size:=F1.o.X.lt;have hwl:=F1.o.B.size;obtain ⟨lo,hlo⟩:∃ lo,lo=w2.heap.size:=⟨_,rfl⟩;have HLO:=Hd (show lo≤w2.heap.size by omega);rw [← hlo] at HPL hgl hwl;clear hlo;generalize hds:y.ds=ds at *;clear hds;go_upto_region 5 with fail;go_wp2_with fail;go_loopw [10,11] (fun v i wr=>∃ (k:Nat) (A0:Option Addr) (c0:Nat) (zs:List Ds),k≤ds.length∧v= .slice A0 zs.length c0∧i= .int .i64 k∧Hid (zs.length≤k)∧Hid (ax EDs wr lo (.slice A0 zs.length c0) zs)∧Hid (GtF w wr (w.heap.size+1) gp a b A n c ps ⟨y.p,ds,A2,c2⟩)∧Hid (lo≤wr.heap.size)) (fun _ i _=>ds.length - (intOf i).toNat);case atStart=>exact ⟨0,none,0, [],Nat.zero_le _,rfl,rfl,Hd (Nat.le_refl _),Hd (ax.nil _ _),F1,HLO⟩
   clear F1 HLO;obtain ⟨k,A0,c0,zs,hk,rfl,rfl,HY,HO,HF,HW⟩:=hrel;have x12:=HF.o.X.cell 12;by_cases hlt:k < ds.length;case pos=>
    have k1:(k:Int) < (ds.length:Int):=(by omega);have k2:(0:Int)≤(k:Int):=(by omega);have WK:=Hd (bq hk (by have:=HK2.o.1;show ds.length≤_;have h8:ds.length≤8:=this;omega));obtain ⟨am,e0,hab,hcx⟩:=aU HF.o.P k hlt;have e1:A2=some am:=e0;subst e1;obtain ⟨s0,s1,s2,s3⟩:=nW (a:=am.add (k * 4)) hcx;clear hcx e0 hab;generalize ds[k]=d at *;by_cases hfd:d.fd=u;case pos=>
     have q1:=(bI hfd).2;clear hfd;obtain ⟨wk1,wk2⟩:=WK.o;go_wp2_with fail;clear wk1 wk2;go_roundw;case rel=>exact ⟨k+1,A0,c0,zs,hlt,rfl,by go_num,Hd (by have:=HY.o;omega),HO,HF,HW⟩
     case measure=>exact aN hlt _ rfl
    case neg=>
     have q1:=(aM hfd).2;clear hfd;go_upto_region 9 with fail;clear q1;have hba:=(Below.refl wr.heap.size wr).alloc (Nat.le_refl _) (.cells #[.int .i64 d.fd, .int .i64 d.d, .int .i64 d.i, .int .i64 d.fl] 320);have F5:=Hd (HF.o.below hba);have O5:=Hd (HO.o.below hba);have W5:=Hd (Nat.le_trans HW.o hba.size);have RW:=Hd (aI EDs wr #[.int .i64 d.fd, .int .i64 d.d, .int .i64 d.i, .int .i64 d.fl] 320 d rfl (Nat.lt_succ_self wr.heap.size));clear hba;go_wp2_with (at_builtin;refine aj EDs rfl (.tmp 36) (.tmp 42) rfl lo (.slice A0 zs.length c0) zs rfl O5.o (wr.heap.size+1) (some ⟨wr.heap.size,0,none⟩) 1 1 [d] rfl rfl RW.o (by have:=HY.o;have h8:ds.length≤8:=HK2.o.1;simp;omega) W5.o ?_);intro v6 w6 ho6 hg6 iR;have F6:=Hd (F5.o.grown hg6 (fun q e=>O5.o.ge q e) hgl HPL.o);have W6:=Hd (Nat.le_trans W5.o hg6.size);obtain ⟨A6,c6,e6,_⟩:=ho6.at;subst e6;have O6:=Hd ho6;have HY6:=Hd (show (zs ++ [d]).length≤k+1 by have:=HY.o;rw [List.length_append];show zs.length+1≤_;omega);clear ho6 hg6 iR RW F5 O5 W5 s0 s1 s2 s3 x12;generalize zs ++ [d]=zn at *;obtain ⟨wk1,wk2⟩:=WK.o;go_wp2_with fail;clear wk1 wk2;go_roundw;case rel=>exact ⟨k+1,A6,c6,zn,hlt,rfl,by go_num,HY6,O6,F6,W6⟩
     case measure=>exact aN hlt _ rfl
   have k1:¬ (k:Int) < (ds.length:Int):=(by omega);by_cases hzl:(zs.length:Int)=(ds.length:Int);case pos=>
    have q1:=(bI hzl).1;go_wp2_with ((with_reducible refine ae ?_ 34 (.tmp 6) (.tmp 50) ?_ HF.o.R (tbC 0 0 (.slice none 0 0)) ?_ ?_ ?_ ?_ ?_ ?_);(iterate 4 rfl);(exact aK _ _ _);rfl;(exact aO _ _ _ _ _));refine bodyPost_ret (aS (fn:=Tryz.f213) rfl _ _ (w.heap.size+1) 0 0 (.slice none 0 0) rfl (Blk.row HF.o.R _)) rfl ?_;exact dx HF.o.R HF.o.B (by omega) (by decide)
   have q1:=(aM hzl).1;clear hzl;have f12:=HF.o.X.free 12;have HZ8:=Hd (show zs.length≤8 by have:=HY.o;have h8:ds.length≤8:=HK2.o.1;omega);go_upto_region 13 with fail;clear q1 k1 x12 f12;have F9:=Hd (HF.o.JH (HO.o.low hwl) HZ8.o);clear HF HO;generalize wr.setCell ⟨gp,12,none⟩ (.slice A0 zs.length c0)=w9 at *;have FH:=Hd F9.o.h;go_wp2_with (first | ((with_reducible refine az ?_ 34 (.tmp 3) ?_ F9.o.V ?_ _ Tryz.underlying34 ?_ ?_ ?_);(iterate 4 rfl);exact aK _ _ _) | ((with_reducible refine az ?_ 47 (.tmp 8) ?_ F9.o.X ?_ _ Tryz.underlying47 ?_ ?_ ?_);(iterate 4 rfl);exact ig _ _));refine (Dj a b ps A n c HN.o HL.o HK.o ⟨y.p,zs,A0,c0⟩ F9.o.k w.heap.size w9 (F9.o.D.more F9.o.B.size) F9.o.P F9.o.B.size).mono ?_;rintro e w5 ⟨A5,n5,c5,zs,rfl,hO,hb5,_⟩;have R5:=Hd (F9.o.R.below hb5);have B5:=Hd (aa F9.o.B hb5);have O5:=Hd hO;clear hO hb5 F9;go_wp2_with ((with_reducible refine ae ?_ 34 (.tmp 6) (.tmp 55) ?_ R5.o (tbC a b (.slice A5 n5 c5)) ?_ ?_ ?_ ?_ ?_ ?_);(iterate 4 rfl);(exact aK _ _ _);rfl;(exact aO _ _ _ _ _));refine bodyPost_ret (aS (fn:=Tryz.f213) rfl _ _ (w.heap.size+1) a b (.slice A5 n5 c5) rfl (Blk.row R5.o _)) rfl ?_;exact j6 O5.o R5.o B5.o (by omega)
theorem Dk {w:World} {B:Nat} {A:Option Addr} {L:List Ds} (h:AtE EDs w B A L) (k:Nat):AtE EDs w B A (L.take k):=fun j hj=>by
 have hj' :j < L.length:=by rw [List.length_take] at hj;omega
 obtain ⟨ad,e,h1,h2⟩:=h j hj';exact ⟨ad,e,h1,by rw [List.getElem_take];exact h2⟩
theorem Dl {w:World} {B:Nat} {a:Addr} {L:List Ds} (h:AtE EDs w B (some a) L) (k:Nat):AtE EDs w B (some (a.add (k * 4))) (L.drop k):=fun j hj=>by
 have hj' :k+j < L.length:=by rw [List.length_drop] at hj;omega
 obtain ⟨ad,e,h1,h2⟩:=h (k+j) hj';injection e with e;subst e;refine ⟨a.add (k * 4),rfl,by rw [ak];exact h1,fun i hi=>?_⟩;rw [List.getElem_drop, ← h2 i hi,show EDs.sz=4 from rfl,Addr.add_add a (k * 4) (j * 4), ← Nat.add_mul]
theorem sw {α:Type} {E:El α} {w:World} {base n cp:Nat} {A:Option Addr} {L:List α} (h:ax E w base (.slice A n cp) L):L.length≤cp:=by
 rcases h.2 with ⟨e,h0⟩ | ⟨g,cap,cur,hv,_,_,hle,_⟩
 · injection e with e1 e2 e3;omega
 · injection hv with e1 e2 e3;omega
theorem dz {α:Type} {E:El α} {w:World} {base n cp:Nat} {A:Option Addr} {L:List α} (h:ax E w base (.slice A n cp) L):n=L.length∧(A=none→cp=0∧L= []):=by
 rcases h.2 with ⟨e,h0⟩ | ⟨g,cap,cur,hv,_,_,hle,_⟩
 · injection e with e1 e2 e3;exact ⟨by omega,fun _=>⟨e3,List.eq_nil_of_length_eq_zero h0⟩⟩
 · injection hv with e1 e2 e3;exact ⟨e2,fun e=>by rw [e1] at e;cases e⟩
theorem zy {w:World} {B c:Nat} {A:Option Addr} {L:List Ds} (h:AtE EDs w B A L) (hc:L.length≤c) (k:Nat):AtE EDs w B (if c=k then A else A.map (fun x=>x.add (k * 4))) (L.drop k):=by
 by_cases e:c=k
 · intro j hj;rw [List.length_drop] at hj;omega
 · rw [if_neg e];cases A with
   | none=>intro j hj;rw [List.length_drop] at hj;obtain ⟨ad,e,_⟩:=h 0 (by omega);cases e
   | some a=>exact Dl h k
theorem mH (a b:Int) (ps:List Pm) (A:Option Addr) (n c:Nat) (hn:n=ps.length) (hl:n≤16) (hk:∀ x∈ps,x.Ok) (pid:Int) (d i fl:Int) (w:World) (h:jZ w w.heap.size A ps):
   Calls Tryz.prog 200 #[.agg (tbC a b (.slice A n c)), .int .i64 pid, .agg #[.int .i64 d, .int .i64 i], .int .i64 fl] w (JG w):=by
 have HN:=Hd hn;have HL:=Hd hl;have HK:=Hd hk;have B0:=Hd (show Below w.heap.size w (((w.alloc (.cells (tbC a b (.slice A n c)) 34)).alloc (.cells #[.int .i64 d, .int .i64 i] 44)).alloc (.cells (tbC 0 0 (.slice none 0 0)) 34)) from (((Below.refl w.heap.size w).alloc (Nat.le_refl _) _).alloc (by simp) _).alloc (by simp;omega) _);have V0:=Hd (((Blk.new w (tbC a b (.slice A n c)) 34).alloc (.cells #[.int .i64 d, .int .i64 i] 44)).alloc (.cells (tbC 0 0 (.slice none 0 0)) 34));have U0:=Hd (show Blk (((w.alloc (.cells (tbC a b (.slice A n c)) 34)).alloc (.cells #[.int .i64 d, .int .i64 i] 44)).alloc (.cells (tbC 0 0 (.slice none 0 0)) 34)) (w.heap.size+1) 44 #[.int .i64 d, .int .i64 i] by
   have h:=((Blk.new (w.alloc (.cells (tbC a b (.slice A n c)) 34)) #[.int .i64 d, .int .i64 i] 44).alloc (.cells (tbC 0 0 (.slice none 0 0)) 34));simpa using h)
 have R0:=Hd (show Blk (((w.alloc (.cells (tbC a b (.slice A n c)) 34)).alloc (.cells #[.int .i64 d, .int .i64 i] 44)).alloc (.cells (tbC 0 0 (.slice none 0 0)) 34)) (w.heap.size+1+1) 34 (tbC 0 0 (.slice none 0 0)) by
   have h:=Blk.new ((w.alloc (.cells (tbC a b (.slice A n c)) 34)).alloc (.cells #[.int .i64 d, .int .i64 i] 44)) (tbC 0 0 (.slice none 0 0)) 34;simpa using h)
 have D0:=Hd (h.keep B0.o (Nat.le_refl _));clear h hn hl hk;go_in;go_upto_region 1 with fail;generalize (((w.alloc (.cells (tbC a b (.slice A n c)) 34)).alloc (.cells #[.int .i64 d, .int .i64 i] 44)).alloc (.cells (tbC 0 0 (.slice none 0 0)) 34))=w0 at *;go_wp2_with ((with_reducible refine az ?_ 34 (.tmp 4) ?_ V0.o ?_ _ Tryz.underlying34 ?_ ?_ ?_);(iterate 4 rfl);exact aK _ _ _);refine (ky a b pid ps A n c HN.o w0 (D0.o.more B0.o.size)).mono ?_;rintro e w1 ⟨hb1,rfl | ⟨y,hy,A2,c2,rfl,ho⟩⟩
 · have hba:=(Below.refl w1.heap.size w1).alloc (Nat.le_refl _) (.cells (psC zPc (.slice none 0 0)) 47);have R1:=Hd ((R0.o.below hb1).below hba);have B1:=Hd (aa (aa B0.o hb1) hba);clear hba hb1 V0 R0 B0 D0;go_wp2_with ((with_reducible refine ae ?_ 34 (.tmp 8) (.tmp 23) ?_ R1.o (tbC 0 0 (.slice none 0 0)) ?_ ?_ ?_ ?_ ?_ ?_);(iterate 4 rfl);(exact aK _ _ _);rfl;(exact aO _ _ _ _ _));refine bodyPost_ret (jP (fn:=Tryz.f200) rfl _ _ (w.heap.size+1+1) 0 0 (.slice none 0 0) rfl (Blk.row R1.o _)) rfl ?_;exact nV B1.o (by omega) _ (by decide)
 · have hba:=(Below.refl w1.heap.size w1).alloc (Nat.le_refl _) (.cells (psC y.p (.slice A2 y.ds.length c2)) 47);have hbb:=aa hb1 hba;have hr1:=(R0.o.below hb1).lt;have F1:=Hd (show GtF w (w1.alloc (.cells (psC y.p (.slice A2 y.ds.length c2)) 47)) (w.heap.size+1+1) w1.heap.size a b A n c ps ⟨y.p,y.ds,A2,c2⟩ from ⟨V0.o.below hbb,R0.o.below hbb,Blk.new w1 _ _,(ho.low B0.o.size).below hba,D0.o.keep hbb B0.o.size,aa B0.o hbb,⟨by omega,hr1⟩,HK.o y hy⟩);have U0x:=Hd (U0.o.below hbb);clear hba hbb hb1 V0 R0 B0 D0 ho hr1 U0;go_upto_region 2 with fail;generalize w1.alloc (.cells (psC y.p (.slice A2 y.ds.length c2)) 47)=w2 at *;generalize w1.heap.size=gp at *;have HK2:=Hd F1.o.k;have HPL:=Hd (show ∀ q,(Value.slice A2 y.ds.length c2).ownBlock=some q→q < w2.heap.size from fun q e=>F1.o.P.lt q e);have hgl:gp < w2.heap.size:=F1.o.X.lt;have hwl:=F1.o.B.size;obtain ⟨lo,hlo⟩:∃ lo,lo=w2.heap.size:=⟨_,rfl⟩;have HLO:=Hd (show lo≤w2.heap.size by omega);rw [← hlo] at HPL hgl hwl;clear hlo;generalize hds:y.ds=ds at *;clear hds;have x12:=F1.o.X.cell 12;by_cases h8:8≤ds.length;case pos=>
    have q1:(8:Int)≤(ds.length:Int):=(by omega);clear h8;go_wp2_with ((with_reducible refine ae ?_ 34 (.tmp 8) (.tmp 28) ?_ F1.o.R (tbC 0 0 (.slice none 0 0)) ?_ ?_ ?_ ?_ ?_ ?_);(iterate 4 rfl);(exact aK _ _ _);rfl;(exact aO _ _ _ _ _));refine bodyPost_ret (jP (fn:=Tryz.f200) rfl _ _ (w.heap.size+1+1) 0 0 (.slice none 0 0) rfl (Blk.row F1.o.R _)) rfl ?_;exact nV F1.o.B (by omega) _ (by decide)
   have q1:¬ (8:Int)≤(ds.length:Int):=(by omega);have H8:=Hd (show ds.length+1≤8 by omega);clear h8;go_upto_region 6 with fail;clear q1 x12;go_wp2_with fail;go_loopw [13] (fun i wr=>∃ k:Nat,k≤ds.length∧i= .int .i64 k∧wr=w2) (fun i _=>ds.length - (intOf i).toNat);case atStart=>exact ⟨0,Nat.zero_le _,rfl,rfl⟩
   obtain ⟨k,hk,rfl,rfl⟩:=hrel;have x12:=F1.o.X.cell 12;have WK:=Hd (bq hk (by have:=H8.o;omega));go_upto_region 7 with fail;go_cut [43] (fun u wx=>∃ bb:Bool,u= .bool bb∧(bb=true→k < ds.length)∧wr=wx);case first=>
    by_cases hlt:k < ds.length;case pos=>
     have k1:(k:Int) < (ds.length:Int):=(by omega);have k2:(0:Int)≤(k:Int):=(by omega);obtain ⟨am,e0,hab,hcx⟩:=aU F1.o.P k hlt;have e1:A2=some am:=e0;subst e1;obtain ⟨s0,s1,s2,s3⟩:=nW (a:=am.add (k * 4)) hcx;clear hcx e0 hab s1 s2 s3;generalize ds[k]=d9 at *;go_wp2_with fail;go_meet;exact ⟨_,rfl,(fun _=>hlt),rfl⟩
    case neg=>
     have k1:¬ (k:Int) < (ds.length:Int):=(by omega);go_wp2_with fail;go_meet;exact ⟨false,rfl,(fun h=>nomatch h),rfl⟩
   case rest=>
   obtain ⟨bb,rfl,hbb,rfl⟩:=hcut;clear x12;cases bb;case true=>
    have hlt:=hbb rfl;clear hbb;obtain ⟨wk1,wk2⟩:=WK.o;go_wp2_with fail;clear wk1 wk2;go_roundw;case rel=>exact ⟨k+1,hlt,rfl,by first | rfl | trivial⟩
    case measure=>exact aN hlt _ rfl
   clear hbb;have x12:=F1.o.X.cell 12;go_upto_region 9 with fail;have hcp:ds.length≤c2:=sw F1.o.P;have k2:(0:Int)≤(k:Int):=(by omega);have k3:(k:Int)≤(c2:Int):=(by omega);have k4:(k:Int)≤(ds.length:Int):=(by omega);go_cut [14] (fun v wx=>∃ (A6:Option Addr) (c6:Nat),v= .slice A6 k c6∧ax EDs wx lo (.slice A6 k c6) (ds.take k)∧GtF w wx (w.heap.size+1+1) gp a b A n c ps ⟨y.p,ds,A2,c2⟩∧lo≤wx.heap.size∧Blk wx (w.heap.size+1) 44 #[.int .i64 d, .int .i64 i]);case first=>
    cases A2 with
    | none=>
     obtain ⟨e9,e8⟩:=(dz F1.o.P).2 rfl;subst e9;subst e8;have k0:k=0:=Nat.le_zero.1 hk;subst k0;go_wp2_with fail;go_meet;exact ⟨none,0,rfl,ax.nil _ _,F1.o,HLO.o,U0x.o⟩
    | some am=>
     have HAT:=Hd (aU F1.o.P);have HTL:=Hd (show (ds.take k).length=k from List.length_take_of_le hk);go_wp2_with (at_builtin;refine aj EDs rfl (.const (.slice none 0 0)) (.tmp 49) rfl lo (.slice none 0 0) [] rfl (ax.nil _ _) wr.heap.size _ _ _ (ds.take k) rfl ?_ ?_ (by have:=H8.o;rw [List.length_nil,HTL.o];omega) HLO.o ?_);case refine_2=>exact Dk HAT.o k
     intro v6 w6 ho6 hg6 iR;have F6:=Hd (F1.o.grown hg6 (fun q e=>by cases e) hgl HPL.o);have U6:=Hd (U0x.o.grown hg6 (fun e=>by cases e));have W6:=Hd (Nat.le_trans HLO.o hg6.size);obtain ⟨A6,c6,e6,_⟩:=ho6.at;subst e6;clear hg6 iR;rw [HTL.o] at ho6 ⊢;go_wp2_with fail;go_meet;exact ⟨_,_,rfl,ho6,F6.o,W6.o,U6.o⟩
   case rest=>
   obtain ⟨A6,c6,rfl,ho,hF,hW,hU⟩:=hcut;have O6:=Hd ho;have F6:=Hd hF;have W6:=Hd hW;have U6:=Hd hU;clear ho hF hW hU F1 HLO U0x x12;have u0:=U6.o.cell 0;have u1:=U6.o.cell 1;have HTL:=Hd (show (ds.take k).length=k from List.length_take_of_le hk);go_upto_region 10 with fail;have hba:=(Below.refl wc.heap.size wc).alloc (Nat.le_refl _) (.cells #[.int .i64 k, .int .i64 d, .int .i64 i, .int .i64 fl] 320);have F7:=Hd (F6.o.below hba);have O7:=Hd (O6.o.below hba);have W7:=Hd (Nat.le_trans W6.o hba.size);have RW:=Hd (aI EDs wc #[.int .i64 k, .int .i64 d, .int .i64 i, .int .i64 fl] 320 ⟨(k:Int),d,i,fl⟩ rfl (Nat.lt_succ_self wc.heap.size));clear hba;go_wp2_with (at_builtin;refine aj EDs rfl (.tmp 51) (.tmp 56) rfl lo (.slice A6 k c6) (ds.take k) rfl O7.o (wc.heap.size+1) (some ⟨wc.heap.size,0,none⟩) 1 1 [⟨(k:Int),d,i,fl⟩] rfl rfl RW.o (by have:=H8.o;rw [HTL.o];simp;omega) W7.o ?_);intro v8 w8 ho8 hg8 vE;have F8:=Hd (F7.o.grown hg8 (fun q e=>O7.o.ge q e) hgl HPL.o);have W8:=Hd (Nat.le_trans W7.o hg8.size);obtain ⟨A8,c8,e8,_⟩:=ho8.at;subst e8;have O8:=Hd ho8;have HL8:=Hd (show (ds.take k ++ ([⟨(k:Int),d,i,fl⟩]:List Ds)).length=k+1 by rw [List.length_append,HTL.o];rfl);clear ho8 hg8 vE RW F7 O7 W7 F6 O6 W6 U6 u0 u1;generalize ds.take k ++ ([⟨(k:Int),d,i,fl⟩]:List Ds)=dk at *;have x12:=F8.o.X.cell 12;have f12:=F8.o.X.free 12;have HAT:=Hd (zy (aU F8.o.P) hcp k);have HDL:=Hd (show (ds.drop k).length=ds.length - k from List.length_drop);go_upto_region 11 with fail;go_cut [] (fun wx=>∃ (A9:Option Addr) (c9:Nat) (zs:List Ds),GtF w wx (w.heap.size+1+1) gp a b A n c ps ⟨y.p,zs,A9,c9⟩);case first=>
    obtain ⟨a8,rfl⟩:∃ a8,A8=some a8:=by
     cases A8 with
     | none=>have h9:=((dz O8.o).2 rfl).2;have h1:=HL8.o;rw [h9] at h1;cases h1
     | some a=>exact ⟨a,rfl⟩
    have hc8:dk.length≤c8:=sw O8.o;cases A2 with
    | none=>
     obtain ⟨e9,e8⟩:=(dz F8.o.P).2 rfl;subst e9;subst e8;have k0:k=0:=Nat.le_zero.1 hk;subst k0;go_wp2_with fail;go_meet;exact ⟨_,_,_,F8.o.JH (O8.o.low hwl) (by have:=H8.o;have h1:=HL8.o;omega)⟩
    | some am=>
     by_cases hck:c2=k
     · subst hck;go_wp2_with fail;go_meet;exact ⟨_,_,_,F8.o.JH (O8.o.low hwl) (by have:=H8.o;have h1:=HL8.o;omega)⟩
     · clear hc8;go_wp2_with (at_builtin;refine aj EDs rfl (.tmp 58) (.tmp 62) rfl lo (.slice (some a8) dk.length c8) dk rfl O8.o w8.heap.size _ _ _ (ds.drop k) rfl ?_ ?_ (by have:=H8.o;have h1:=HL8.o;have h2:=HDL.o;omega) W8.o ?_);case refine_2=>have h9:=HAT.o;rw [if_neg hck] at h9;exact h9
       intro v9 w9 ho9 hg9 qO;have F9:=Hd (F8.o.grown hg9 (fun q e=>O8.o.ge q e) hgl HPL.o);obtain ⟨A9,c9,e9,_⟩:=ho9.at;subst e9;have O9:=Hd ho9;have HL9:=Hd (show (dk ++ ds.drop k).length≤8 by rw [List.length_append,HL8.o,HDL.o];have:=H8.o;omega);clear ho9 hg9 qO;generalize dk ++ ds.drop k=zs at *;clear x12 f12;have x12:=F9.o.X.cell 12;have f12:=F9.o.X.free 12;go_wp2_with fail;go_meet;exact ⟨_,_,_,F9.o.JH (O9.o.low hwl) HL9.o⟩
   case rest=>
   obtain ⟨A9,c9,zs,hF⟩:=hcut;have F9:=Hd hF;clear hF F8 O8 W8 HAT x12 f12;go_upto_region 12 with fail;have FH:=Hd F9.o.h;go_wp2_with (first | ((with_reducible refine az ?_ 34 (.tmp 4) ?_ F9.o.V ?_ _ Tryz.underlying34 ?_ ?_ ?_);(iterate 4 rfl);exact aK _ _ _) | ((with_reducible refine az ?_ 47 (.tmp 11) ?_ F9.o.X ?_ _ Tryz.underlying47 ?_ ?_ ?_);(iterate 4 rfl);exact ig _ _));refine (Dj a b ps A n c HN.o HL.o HK.o ⟨y.p,zs,A9,c9⟩ F9.o.k w.heap.size wc (F9.o.D.more F9.o.B.size) F9.o.P F9.o.B.size).mono ?_;rintro e w5 ⟨A5,n5,c5,zs,rfl,hO,hb5,_⟩;have R5:=Hd (F9.o.R.below hb5);have B5:=Hd (aa F9.o.B hb5);have O5:=Hd hO;clear hO hb5 F9;go_wp2_with ((with_reducible refine ae ?_ 34 (.tmp 8) (.tmp 67) ?_ R5.o (tbC a b (.slice A5 n5 c5)) ?_ ?_ ?_ ?_ ?_ ?_);(iterate 4 rfl);(exact aK _ _ _);rfl;(exact aO _ _ _ _ _));refine bodyPost_ret (jP (fn:=Tryz.f200) rfl _ _ (w.heap.size+1+1) a b (.slice A5 n5 c5) rfl (Blk.row R5.o _)) rfl ?_;exact wI O5.o R5.o B5.o (by omega) _
structure Fo where
 dd:Int
 di:Int
 nm:ByteArray
 fd:Int
 fi:Int
 ex:Bool
 sl:Bool
 pa:ByteArray
abbrev foC (x:Fo):Array Value:=#[.int .i64 x.dd, .int .i64 x.di, .string x.nm, .int .i64 x.fd, .int .i64 x.fi, .bool x.ex, .bool x.sl, .string x.pa]
def zFo:Fo:=⟨0,0,⟨#[]⟩,0,0,false,false,⟨#[]⟩⟩
theorem dB (x:Fo):(Tryz.prog.info? 223).map (·.size)=some (foC x).size:=by show _=some 8;kernel_rfl
theorem bK (x:Fo):(foC x).all (·.oneCell')=true:=by simp [Value.oneCell']
theorem dQ {fn:Func} {i j:Nat} (h:fn.results=#[.cell i 223, .tmp j]) (tmps:Array Value) (w:World) (g:Nat) (x:Fo) (hp:tmps.getD i undef= .pointer (some ⟨g,0,none⟩)) (hg:Blk w g 223 (foC x)):
  (results fn tmps).run Tryz.prog w= .ok (.tuple #[.agg (foC x),tmps.getD j undef]) w:=by
 have hp' :tmps[i]?.getD undef= .pointer (some ⟨g,0,none⟩):=by simpa using hp
 simp [results,h,hp',asAddr,run_loadVar_row w g 223 223 (foC x) (0,0) _ hg Tryz.underlying223 rfl (dB x)]
def rq:El ByteArray where
 C s:= [.string s]
 e:=9
 sl:=49
 sz:=1
 bs:=16
 len _:=rfl
 one x u hu:=by simp at hu;rw [hu];rfl
 pos:=by omega
 small:=by omega
 hu:=Tryz.underlying49
 info:=by
  obtain ⟨i0,h1,h2,h3,h4⟩:=info_parts Tryz.GG;exact ⟨i0,_,h1,h2,h3,h4,rfl⟩
theorem nX {w:World} {base:Nat} {v:Value} {L:List ByteArray} (h:bJ w base v L):ax rq w base v L:=by
 have e:∀ M:List ByteArray,M.flatMap rq.C=M.map Value.string:=fun M=>by
  induction M with
  | nil=>rfl
  | cons a r ih=>rw [List.flatMap_cons,List.map_cons,ih];rfl
 unfold ax;unfold bJ at h;rw [e];exact h
theorem nY {w:World} {a:Addr} {s:ByteArray} (h:∀ j,j < 1→w.cell? (a.add j)=(rq.C s)[j]?):w.cell? a=some (.string s):=h 0 (by omega)
structure PiF (wr:World) (gd go:Nat) (A:Option Addr) (c:Nat) (L:List ByteArray):Prop where
 at_:AtE rq wr wr.heap.size A L
 far:∀ ad,A=some ad→ad.block≠gd∧ad.block≠go
 cap:L.length≤c
 siz:∀ x∈L,x.size≤128
theorem PiF.below {wr w' :World} {gd go c:Nat} {A:Option Addr} {L:List ByteArray} (h:PiF wr gd go A c L) (hb:Below wr.heap.size wr w'):PiF w' gd go A c L:=⟨h.at_.below hb,h.far,h.cap,h.siz⟩
theorem PiF.row {wr:World} {gd go c k:Nat} {A:Option Addr} {L:List ByteArray} (h:PiF wr gd go A c L) (hk:k=gd∨k=go) (cs:Array Value):PiF (wr.setRow k cs) gd go A c L:=by
 refine ⟨fun q hq=>?_,h.far,h.cap,h.siz⟩;obtain ⟨ad,e,hl,hc⟩:=h.at_ q hq;refine ⟨ad,e,by rw [setRow_size];exact hl,fun j hj=>?_⟩;rw [← hc j hj];refine World.cell?_of_block (setRow_other wr k _ cs ?_);rw [ak,ak];have:=h.far ad e;rcases hk with rfl | rfl
 · exact this.1
 · exact this.2
theorem PiF.nil (wr:World) (gd go c:Nat) (A:Option Addr) (h:∀ ad,A=some ad→ad.block≠gd∧ad.block≠go):PiF wr gd go A c []:=⟨AtE.nil,h,Nat.zero_le _,fun x hx=>by cases hx⟩
theorem PiF.tail {wr:World} {gd go c:Nat} {a:Addr} {x:ByteArray} {L:List ByteArray} (h:PiF wr gd go (some a) c (x :: L)):PiF wr gd go (some (a.add 1)) (c - 1) L:=by
 refine ⟨fun q hq=>?_,fun ad e=>?_,by have:=h.cap;rw [List.length_cons] at this;omega,fun y hy=>h.siz y (List.mem_cons_of_mem _ hy)⟩
 · obtain ⟨ad,e,hl,hc⟩:=h.at_ (q+1) (by simpa using hq);injection e with e;subst e;refine ⟨a.add 1,rfl,by rw [ak];exact hl,fun j hj=>?_⟩;have:=hc j hj;rw [Addr.add_add] at this ⊢;rw [Addr.add_add];have e2:1+(q * rq.sz+j)=(q+1) * rq.sz+j:=(by show 1+(q * 1+j)=(q+1) * 1+j;omega);rw [e2];exact this
 · injection e with e;subst e;rw [ak];exact h.far a rfl
theorem PiF.own {wr:World} {base gd go c n:Nat} {A:Option Addr} {L:List ByteArray} (h:ax rq wr base (.slice A n c) L) (hb:∀ q,(Value.slice A n c).ownBlock=some q→q≠gd∧q≠go) (hs:∀ x∈L,x.size≤128):PiF wr gd go A c L∧n=L.length:=by
 rcases Joins.ownsRow_forms h with ⟨e,e0⟩ | ⟨g,cap,e⟩
 · injection e with e1 e2 e3;have:L= []:=List.eq_nil_of_length_eq_zero e0;subst this;subst e1;exact ⟨PiF.nil _ _ _ _ _ (fun _ e=>by cases e),e2⟩
 · injection e with e1 e2 e3;subst e1;refine ⟨⟨aU h,fun ad e=>?_,?_,hs⟩,e2⟩
   · injection e with e;subst e;exact hb g rfl
   · rcases h.2 with ⟨e,_⟩ | ⟨g1,c1,LX,e,_,_,h2,_⟩
     · cases e
     · injection e with _ _ e;subst e;exact h2
structure FdF (w wr:World) (A:Option Addr) (n c:Nat) (ds:List Dm) (Am:Option Addr) (nm cm:Nat) (ms:List Mt) (d i:Int):Prop where
 f:SrF w wr A n c ds Am nm cm ms d i
 R:Blk wr (w.heap.size+1+1) 223 (foC zFo)
section
variable {w wr w' :World} {A Am:Option Addr} {n c nm cm gd go:Nat} {ds:List Dm} {ms:List Mt} {d i:Int}
theorem FdF.grow (h:FdF w wr A n c ds Am nm cm ms d i) (hb:Below wr.heap.size wr w'):FdF w w' A n c ds Am nm cm ms d i:=⟨h.f.grow hb,h.R.below hb⟩
theorem FdF.alloc (h:FdF w wr A n c ds Am nm cm ms d i) (o:Obj):FdF w (wr.alloc o) A n c ds Am nm cm ms d i:=h.grow ((Below.refl _ _).alloc (Nat.le_refl _) _)
theorem FdF.row (h:FdF w wr A n c ds Am nm cm ms d i) {k:Nat} (hk:w.heap.size+1+1 < k) (cs:Array Value):FdF w (wr.setRow k cs) A n c ds Am nm cm ms d i:=by
 have hgx:=aA wr k cs;have hb:Below (w.heap.size+1+1+1) wr (wr.setRow k cs):=(Below.refl _ wr).grown hgx (by have:=h.R.lt;omega) (fun q e=>by injection e with e;omega);exact ⟨⟨ai h.f.low (by omega) cs,h.f.src.keep hb (by omega),h.f.mts.keep hb (by omega),h.f.V.keep hb (by omega),h.f.U.keep hb (by omega)⟩,h.R.keep hb (by omega)⟩
def FoP (w:World) (e:Ending) (w' :World):Prop:=∃ (x:Fo) (k:Int),e= .returned (.tuple #[.agg (foC x), .int .i64 k])∧x.nm.size≤12∧x.pa.size≤640∧Below w.heap.size w w'
theorem FdF.err (h:FdF w wr A n c ds Am nm cm ms d i) (k:Int):FoP w (.returned (.tuple #[.agg (foC zFo), .int .i64 k])) (wr.setRow (w.heap.size+1+1) (foC zFo)):=⟨zFo,k,rfl,Nat.zero_le _,Nat.zero_le _,ai h.f.low (by omega) _⟩
structure FiF (w wr:World) (A:Option Addr) (n c:Nat) (ds:List Dm) (Am:Option Addr) (nm cm:Nat) (ms:List Mt) (d i:Int) (gd go:Nat):Prop where
 f:FdF w wr A n c ds Am nm cm ms d i
 D:∃ a b:Int,Blk wr gd 44 #[.int .i64 a, .int .i64 b]
 O:∃ x:Fo,Blk wr go 223 (foC x)∧x.nm.size≤12∧x.pa=⟨#[]⟩
 h1:w.heap.size+1+1 < gd
 h2:gd < go
theorem FiF.grow (h:FiF w wr A n c ds Am nm cm ms d i gd go) (hb:Below wr.heap.size wr w'):FiF w w' A n c ds Am nm cm ms d i gd go:=by
 obtain ⟨a,b,hD⟩:=h.D;obtain ⟨x,hO,hx⟩:=h.O;exact ⟨h.f.grow hb,⟨a,b,hD.below hb⟩,⟨x,hO.below hb,hx⟩,h.h1,h.h2⟩
theorem FiF.alloc (h:FiF w wr A n c ds Am nm cm ms d i gd go) (o:Obj):FiF w (wr.alloc o) A n c ds Am nm cm ms d i gd go:=h.grow ((Below.refl _ _).alloc (Nat.le_refl _) _)
theorem FiF.dir (h:FiF w wr A n c ds Am nm cm ms d i gd go) (a b:Int):FiF w (wr.setRow gd #[.int .i64 a, .int .i64 b]) A n c ds Am nm cm ms d i gd go:=by
 obtain ⟨_,_,hD⟩:=h.D;obtain ⟨x,hO,hx⟩:=h.O;have h1:=h.h1;have h2:=h.h2;exact ⟨h.f.row h1 _,⟨a,b,hD.row _⟩,⟨x,hO.ah _ (by omega),hx⟩,h1,h2⟩
theorem FiF.o (h:FiF w wr A n c ds Am nm cm ms d i gd go) (x:Fo) (hx:x.nm.size≤12∧x.pa=⟨#[]⟩):FiF w (wr.setRow go (foC x)) A n c ds Am nm cm ms d i gd go:=by
 obtain ⟨a,b,hD⟩:=h.D;obtain ⟨_,hO,_⟩:=h.O;have h1:=h.h1;have h2:=h.h2;exact ⟨h.f.row (by omega) _,⟨a,b,hD.ah _ (by omega)⟩,⟨x,hO.row _,hx⟩,h1,h2⟩
end
theorem FdF.only {w wr w' :World} {A Am:Option Addr} {n c nm cm:Nat} {ds:List Dm} {ms:List Mt} {d i:Int} (h:FdF w wr A n c ds Am nm cm ms d i) {k:Nat} (hk:w.heap.size+1+1 < k) (hg:wr.grownBy w' (some k)):FdF w w' A n c ds Am nm cm ms d i:=by
 have hb:Below (w.heap.size+1+1+1) wr w' :=(Below.refl _ wr).grown hg (by have:=h.R.lt;omega) (fun q e=>by injection e with e;omega);exact ⟨⟨h.f.low.trans (hb.mono (by omega)),h.f.src.keep hb (by omega),h.f.mts.keep hb (by omega),h.f.V.keep hb (by omega),h.f.U.keep hb (by omega)⟩,h.R.keep hb (by omega)⟩
section
variable {w wr w' :World} {A Am:Option Addr} {n c nm cm gd go:Nat} {ds:List Dm} {ms:List Mt} {d i:Int}
theorem FiF.NY (h:FiF w wr A n c ds Am nm cm ms d i gd go) (hg:wr.grownBy w' (some gd)) {a b:Int} (hD:Blk w' gd 44 #[.int .i64 a, .int .i64 b]):FiF w w' A n c ds Am nm cm ms d i gd go:=by
 obtain ⟨x,hO,hx⟩:=h.O;have h1:=h.h1;have h2:=h.h2;exact ⟨h.f.only h1 hg,⟨a,b,hD⟩,⟨x,hO.grown hg (fun e=>by injection e with e;omega),hx⟩,h1,h2⟩
theorem PiF.only {A:Option Addr} {c k:Nat} {L:List ByteArray} (h:PiF wr gd go A c L) (hk:k=gd∨k=go) (hg:wr.grownBy w' (some k)):PiF w' gd go A c L:=by
 refine ⟨fun q hq=>?_,h.far,h.cap,h.siz⟩;obtain ⟨ad,e,hl,hc⟩:=h.at_ q hq;refine ⟨ad,e,Nat.lt_of_lt_of_le hl hg.size,fun j hj=>?_⟩;rw [← hc j hj];refine World.cell?_of_block (hg.block _ (by rw [ak,ak];exact hl) ?_);rw [ak,ak];have:=h.far ad e;intro e2;injection e2 with e2;rcases hk with rfl | rfl
 · exact this.1 e2
 · exact this.2 e2
end
def zF:Value→Nat | .slice _ n _=>n | _=>0
theorem Tryz.Dp:(Tryz.prog.info? 73).map (fun i=>(i.zero,i.size,i.bytes))=some (some (.agg lh),13,128):=by kernel_rfl
def lq:El (Itm×bE) where
 C p:=(bf p.1 p.2).toList
 e:=73
 sl:=52
 sz:=13
 bs:=128
 len _:=rfl
 one p u hu:=by
  have:=kL p.1 p.2;rw [← Array.all_toList,List.all_eq_true] at this;exact this u hu
 pos:=by omega
 small:=by omega
 hu:=Tryz.underlying52
 info:=by
  obtain ⟨i0,h1,h2,h3,h4⟩:=info_parts Tryz.Dp;exact ⟨i0,_,h1,h2,h3,h4,rfl⟩
theorem Tryz.GI:(Tryz.prog.info? 223).map (fun i=>(i.zero,i.size,i.bytes))=some (some (.agg (foC zFo)),8,72):=by kernel_rfl
def EFo:El Fo where
 C x:= [.int .i64 x.dd, .int .i64 x.di, .string x.nm, .int .i64 x.fd, .int .i64 x.fi, .bool x.ex, .bool x.sl, .string x.pa]
 e:=223
 sl:=174
 sz:=8
 bs:=72
 len _:=rfl
 one x u hu:=by simp at hu;rcases hu with rfl | rfl | rfl | rfl | rfl | rfl | rfl | rfl <;> rfl
 pos:=by omega
 small:=by omega
 hu:=Tryz.underlying174
 info:=by
  obtain ⟨i0,h1,h2,h3,h4⟩:=info_parts Tryz.GI;exact ⟨i0,_,h1,h2,h3,h4,rfl⟩
abbrev foZ:Array Value:=#[.int .i64 0, .int .i64 0, .string ⟨#[]⟩, .int .i64 0, .int .i64 0, .bool false, .bool false, .string ⟨#[]⟩]
structure Wu where
 p:Pc
 O:Option Addr
 no:Nat
 co:Nat
 z:Int
 a:Nat→Int
 P:Option Addr
 np:Nat
 cp:Nat
 G:Option Addr
 ng:Nat
 cg:Nat
 gh:List (Value×List (Itm×bE))
structure Wv where
 A:Option Addr
 n:Nat
 c:Nat
 Am:Option Addr
 nm:Nat
 cm:Nat
 ta:Int
 tb:Int
 At:Option Addr
 nt:Nat
 ct:Nat
 F:Option Addr
 nF:Nat
 cF:Nat
 ex:Int
 ch:Int
 go:Int
 I:Option Addr
 nI:Nat
 cI:Nat
 C:Option Addr
 nC:Nat
 cC:Nat
abbrev wkC (u:Wu) (v:Wv):Array Value:=#[.slice v.A v.n v.c, .slice v.Am v.nm v.cm, .int .i64 v.ta, .int .i64 v.tb, .slice v.At v.nt v.ct,
 .int .i64 u.p.pid, .int .i64 u.p.pp, .int .i64 u.p.ui, .int .i64 u.p.eu, .int .i64 u.p.gi, .int .i64 u.p.eg, .int .i64 u.p.au, .int .i64 u.p.se, .int .i64 u.p.cd, .int .i64 u.p.ci, .string u.p.co, .string u.p.ex, .slice u.O u.no u.co, .bool u.p.dl,
 .int .i64 u.z, .int .i64 (u.a 0), .int .i64 (u.a 1), .int .i64 (u.a 2), .int .i64 (u.a 3), .slice u.P u.np u.cp, .slice u.G u.ng u.cg,
 .slice v.F v.nF v.cF, .int .i64 v.ex, .int .i64 v.ch, .int .i64 v.go, .slice v.I v.nI v.cI, .slice v.C v.nC v.cC]
theorem aC.lu {w w' :World} {base g:Nat} {v:Value} {ds:List Dm} {t:TypeId} {cs:Array Value} (h:aC w base v ds) (hk:Blk w g t cs) (hg:w.grownBy w' (some g)) (h1:EDv.e≠t) (h2:ENd.e≠t) (h3:EEn.e≠t):aC w' base v ds:=
 h.far hg (fun q e=>by injection e with e;subst e;exact ⟨ay h.own hk h1,fun dd hdd=>ay (h.nodes dd hdd).1 hk h2,fun dd hdd y hy=>ay (h.cu dd hdd y hy).1 hk h3⟩)
def uA (x:Itm×bE):Prop:=x.2.gv.size≤128∧x.2.pa.size≤640∧x.2.nm.size≤12
def pR:List TypeId:= [142,145,209,199,47,320,223,73,283]
structure WkO (w:World) (base:Nat) (v:Wv) (ds:List Dm) (ms:List Mt) (fs:List Fo) (m:Nat):Prop where
 fo:aC w base (.slice v.A v.n v.c) ds
 mo:ax EMt w base (.slice v.Am v.nm v.cm) ms
 so:SOk (ds.map Dm.dv) ms
 tb:∃ ps,aJ w base (.slice v.At v.nt v.ct) ps
 ff:ax EFo w base (.slice v.F v.nF v.cF) fs
 fk:∀ x∈fs,x.nm.size≤12∧x.pa.size≤640
 it:∃ is,ax lq w base (.slice v.I v.nI v.cI) is∧is.length=m∧∀ x∈is,uA x
 ch:∃ cs,ax lN w base (.slice v.C v.nC v.cC) cs∧cs.length≤2
section
variable {w w' :World} {base gw m:Nat} {u:Wu} {v v' :Wv} {ds:List Dm} {ms:List Mt} {fs:List Fo}
theorem WkO.below (h:WkO w base v ds ms fs m) (hb:Below w.heap.size w w'):WkO w' base v ds ms fs m:=by
 obtain ⟨ps,hp⟩:=h.tb;obtain ⟨is,h1,h2⟩:=h.it;obtain ⟨cs,h3,h4⟩:=h.ch;exact ⟨h.fo.below hb,h.mo.below hb,h.so,⟨ps,hp.below hb⟩,h.ff.below hb,h.fk,⟨is,h1.below hb,h2⟩,⟨cs,h3.below hb,h4⟩⟩
theorem iX {E t:TypeId} (h:E∈pR) (ht:t ∉ pR):E≠t:=fun e=>ht (e ▸ h)
theorem WkO.far (h:WkO w base v ds ms fs m) {k:Nat} {t:TypeId} {cs:Array Value} (hg:w.grownBy w' (some k)) (hk:Blk w k t cs) (ht:t ∉ pR):WkO w' base v ds ms fs m:=by
 have T {α:Type} {E:El α} {V:Value} {L:List α} (ho:ax E w base V L) (hE:E.e∈pR):ax E w' base V L:=
  ho.far hg (fun q e r=>by injection r with r;subst r;exact ay ho hk (iX hE ht) e)
 obtain ⟨ps,hp⟩:=h.tb;obtain ⟨is,h1,h2⟩:=h.it;obtain ⟨cs,h3,h4⟩:=h.ch;exact ⟨h.fo.lu hk hg (iX (by decide) ht) (iX (by decide) ht) (iX (by decide) ht),T h.mo (by decide),h.so,
  ⟨ps,hp.far hg (fun q e=>by injection e with e;subst e;exact hp.blk hk (iX (by decide) ht) (iX (by decide) ht))⟩,T h.ff (by decide),h.fk,⟨is,T h1 (by decide),h2⟩,⟨cs,T h3 (by decide),h4⟩⟩
theorem aC.uB {α:Type} {E:El α} {V:Value} {L:List α} {b:Nat} {U:Value} (h:aC w base U ds) (ho:ax E w b V L) (hg:w.grownBy w' V.ownBlock) (h1:EDv.e≠E.e) (h2:ENd.e≠E.e) (h3:EEn.e≠E.e):aC w' base U ds:=
 h.far hg fun k e=>⟨fun e2=>aB h.own ho h1 k e2 e,fun d hd e2=>aB (h.nodes d hd).1 ho h2 k e2 e,fun d hd x hx e2=>aB (h.cu d hd x hx).1 ho h3 k e2 e⟩
theorem ax.uB {α β:Type} {E:El α} {G:El β} {V U:Value} {L:List α} {M:List β} {b:Nat} (h:ax G w base U M) (ho:ax E w b V L) (hg:w.grownBy w' V.ownBlock) (h1:G.e≠E.e):ax G w' base U M:=
 h.far hg fun k e r=>aB h ho h1 k e r
theorem aJ.uB {α:Type} {E:El α} {V U:Value} {L:List α} {b:Nat} {ps:List Pm} (h:aJ w base U ps) (ho:ax E w b V L) (hg:w.grownBy w' V.ownBlock) (h1:EPc.e≠E.e) (h2:EDs.e≠E.e):aJ w' base U ps:=
 h.far hg fun k e=>⟨fun e2=>aB h.own ho h1 k e2 e,fun x hx e2=>aB (h.op x hx).1 ho h2 k e2 e⟩
theorem WkO.items (h:WkO w base v ds ms fs m) {I2:Option Addr} {nI2 cI2 m2:Nat} {is2:List (Itm×bE)} (hg:w.grownBy w' (Value.slice v.I v.nI v.cI).ownBlock) (h2:ax lq w' base (.slice I2 nI2 cI2) is2) (hl:is2.length=m2) (hk:∀ x∈is2,uA x):
  WkO w' base { v with I:=I2,nI:=nI2,cI:=cI2 } ds ms fs m2:=by
 obtain ⟨ps,hp⟩:=h.tb;obtain ⟨is,ho,_⟩:=h.it;obtain ⟨cs,h3,h4⟩:=h.ch;exact ⟨h.fo.uB ho hg (by decide) (by decide) (by decide),h.mo.uB ho hg (by decide),h.so,⟨ps,hp.uB ho hg (by decide) (by decide)⟩,h.ff.uB ho hg (by decide),h.fk,⟨is2,h2,hl,hk⟩,⟨cs,h3.uB ho hg (by decide),h4⟩⟩
theorem WkO.GJ (h:WkO w base v ds ms fs m) {F2:Option Addr} {nF2 cF2:Nat} {fs2:List Fo} (hg:w.grownBy w' (Value.slice v.F v.nF v.cF).ownBlock) (h2:ax EFo w' base (.slice F2 nF2 cF2) fs2) (hk:∀ x∈fs2,x.nm.size≤12∧x.pa.size≤640):
  WkO w' base { v with F:=F2,nF:=nF2,cF:=cF2 } ds ms fs2 m:=by
 obtain ⟨ps,hp⟩:=h.tb;obtain ⟨is,h1,h5⟩:=h.it;obtain ⟨cs,h3,h4⟩:=h.ch;have ho:=h.ff;exact ⟨h.fo.uB ho hg (by decide) (by decide) (by decide),h.mo.uB ho hg (by decide),h.so,⟨ps,hp.uB ho hg (by decide) (by decide)⟩,h2,hk,⟨is,h1.uB ho hg (by decide),h5⟩,⟨cs,h3.uB ho hg (by decide),h4⟩⟩
theorem WkO.NZ (h:WkO w base v ds ms fs m) {A2 C2:Option Addr} {n2 c2 nC2 cC2:Nat} {ds2:List Dm} {cs2:List Chg} (h1:aC w base (.slice A2 n2 c2) ds2) (h2:SOk (ds2.map Dm.dv) ms) (h3:ax lN w base (.slice C2 nC2 cC2) cs2) (h4:cs2.length≤2):
 WkO w base { v with A:=A2,n:=n2,c:=c2,C:=C2,nC:=nC2,cC:=cC2 } ds2 ms fs m:=⟨h1,h.mo,h2,h.tb,h.ff,h.fk,h.it,⟨cs2,h3,h4⟩⟩
theorem WkO.N7 (h:WkO w base v ds ms fs m) {A2:Option Addr} {n2 c2:Nat} {ps:List Pm} (a b:Int) (h1:aJ w base (.slice A2 n2 c2) ps):WkO w base { v with ta:=a,tb:=b,At:=A2,nt:=n2,ct:=c2 } ds ms fs m:=⟨h.fo,h.mo,h.so,⟨ps,h1⟩,h.ff,h.fk,h.it,h.ch⟩
theorem WkO.N9 (h:WkO w base v ds ms fs m) {A2 Am2:Option Addr} {n2 c2 nm2 cm2:Nat} {ds2:List Dm} {ms2:List Mt} (h1:aC w base (.slice A2 n2 c2) ds2) (h3:ax EMt w base (.slice Am2 nm2 cm2) ms2) (h2:SOk (ds2.map Dm.dv) ms2):
 WkO w base { v with A:=A2,n:=n2,c:=c2,Am:=Am2,nm:=nm2,cm:=cm2 } ds2 ms2 fs m:=⟨h1,h3,h2,h.tb,h.ff,h.fk,h.it,h.ch⟩
theorem WkO.few (h:WkO w base v ds ms fs m):v.nm=ms.length∧v.nm≤2∧v.n=ds.length:=by
 have h1:=(dz h.mo).1;have h2:=h.so.2.few h.so.1.2.1;exact ⟨h1,by omega,h.fo.uy.2⟩
def yO (w:World) (base:Nat) (u:Wu) (I:Option Addr):Prop:=∀ p∈u.gh,ax lq w base p.1 p.2∧∀ (q:Nat) (a:Addr),p.1.ownBlock=some q→I=some a→a.block≠q
theorem yO.below {w w' :World} {base:Nat} {u:Wu} {I:Option Addr} (h:yO w base u I) (hb:Below w.heap.size w w'):yO w' base u I:=fun p hp=>⟨(h p hp).1.below hb,(h p hp).2⟩
theorem yO.far {w w' :World} {base:Nat} {u:Wu} {I:Option Addr} (h:yO w base u I) {k:Nat} {t:TypeId} {cs:Array Value} (hg:w.grownBy w' (some k)) (hk:Blk w k t cs) (ht:(73:Nat)≠t):yO w' base u I:=fun p hp=>
 ⟨(h p hp).1.far hg (fun q e r=>by injection r with r;subst r;exact ay (h p hp).1 hk ht e),(h p hp).2⟩
theorem yO.item {w w' :World} {base gI:Nat} {u:Wu} (h:yO w base u (some ⟨gI,0,none⟩)) (hg:w.grownBy w' (some gI)):yO w' base u (some ⟨gI,0,none⟩):=fun p hp=>
 ⟨(h p hp).1.far hg (fun q e r=>(h p hp).2 q ⟨gI,0,none⟩ e rfl (by injection r)),(h p hp).2⟩
structure WkS (w:World) (base gw:Nat) (u:Wu) (v:Wv) (ds:List Dm) (ms:List Mt) (fs:List Fo) (m:Nat):Prop where
 X:Blk w gw 176 (wkC u v)
 O:WkO w base v ds ms fs m
 hb:base≤gw
 gh:yO w base u v.I
theorem WkS.below (h:WkS w base gw u v ds ms fs m) (hb:Below w.heap.size w w'):WkS w' base gw u v ds ms fs m:=⟨h.X.below hb,h.O.below hb,h.hb,h.gh.below hb⟩
theorem WkS.far (h:WkS w base gw u v ds ms fs m) {k:Nat} {t:TypeId} {cs:Array Value} (hg:w.grownBy w' (some k)) (hk:Blk w k t cs) (ht:t ∉ pR) (hne:k≠gw):WkS w' base gw u v ds ms fs m:=
 ⟨h.X.grown hg (fun e=>hne (Option.some.inj e)),h.O.far hg hk ht,h.hb,h.gh.far hg hk (iX (by decide) ht)⟩
theorem WkS.big (h:WkS w base gw u v ds ms fs m):base≤w.heap.size:=by have:=h.hb;have:=h.X.lt;omega
end
def WkP (w:World) (base gw:Nat) (u:Wu) (fs:List Fo) (m:Nat) (e:Ending) (w' :World):Prop:=∃ (k:Int) (v:Wv) (ds:List Dm) (ms:List Mt),e= .returned (.int .i64 k)∧WkS w' base gw u v ds ms fs m∧Below base w w'
def WbP (w:World) (e:Ending) (w' :World):Prop:=(∃ b:Bool,e= .returned (.bool b))∧Below w.heap.size w w'
end Go.Proofs.YtollifnnpihfdaaGreatDoor
