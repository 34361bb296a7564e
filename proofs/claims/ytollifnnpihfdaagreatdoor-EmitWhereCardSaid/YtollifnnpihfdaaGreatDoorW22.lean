import Derived.Test.YtollifnnpihfdaaGreatDoorW21
set_option maxRecDepth 100000
set_option maxHeartbeats 64000000
set_option linter.all false
namespace Go.Proofs.YtollifnnpihfdaaGreatDoor
open Go.RowKit
def Lv (w:World) (e:Ending) (w' :World):Prop:=(∃ b:Bool,e= .returned (.bool b))∧Below w.heap.size w w'
def Eu (u:Int) (w:World) (e:Ending) (w' :World):Prop:=e= .returned (.bool (decide (0≤u) && decide (u < 4294967295)))∧w=w'
theorem Lx (nd:Nd) (v:Value) (u g p:Int) (w:World):
  Calls Tryz.prog 248 #[.agg (ndC nd v), .int .i64 u, .int .i64 g, .int .i64 p] w (Lv w):=by
 have B0:=Hd ((Below.refl w.heap.size w).alloc (Nat.le_refl _) (.cells (ndC nd v) 145));have N0:=Hd (Blk.new w (ndC nd v) 145);by_cases hp:p < 0;case pos=>
  go_in;go_wp2_with fail;go_ret;exact ⟨⟨_,rfl⟩,B0.o⟩
 case neg=>
  by_cases hp7:7 < p;case pos=>
   go_in;go_wp2_with fail;go_ret;exact ⟨⟨_,rfl⟩,B0.o⟩
  case neg=>
   cases hu:(u == 0) with
   | true=>
    go_in;go_upto_region 1 with fail;generalize w.alloc (.cells (ndC nd v) 145)=w0 at *;have n1:=N0.o.cell 1;have n2:=N0.o.cell 2;cases h1:(bits BinOp.and IntKind.i64 p 1 == 0) with
    | true=>
     go_wp2_with fail;go_ret;exact ⟨⟨_,rfl⟩,B0.o⟩
    | false=>
     cases h2:(nd.kind == 2) with
     | true=>
      go_wp2_with fail;go_ret;exact ⟨⟨_,rfl⟩,B0.o⟩
     | false=>
      go_wp2_with fail;go_ret;exact ⟨⟨_,rfl⟩,B0.o⟩
   | false=>
    cases hu2:(u == nd.uid) with
    | true=>
     go_in;go_upto_region 1 with fail;generalize w.alloc (.cells (ndC nd v) 145)=w0 at *;have n2:=N0.o.cell 2;have n3:=N0.o.cell 3;have n4:=N0.o.cell 4;go_wp2_with fail;go_ret;exact ⟨⟨_,rfl⟩,B0.o⟩
    | false=>
     cases hg:(g == nd.gid) with
     | true=>
      go_in;go_upto_region 1 with fail;generalize w.alloc (.cells (ndC nd v) 145)=w0 at *;have n2:=N0.o.cell 2;have n3:=N0.o.cell 3;have n4:=N0.o.cell 4;go_wp2_with fail;go_ret;exact ⟨⟨_,rfl⟩,B0.o⟩
     | false=>
      go_in;go_upto_region 1 with fail;generalize w.alloc (.cells (ndC nd v) 145)=w0 at *;have n2:=N0.o.cell 2;have n3:=N0.o.cell 3;have n4:=N0.o.cell 4;go_wp2_with fail;go_ret;exact ⟨⟨_,rfl⟩,B0.o⟩
theorem uy (u:Int) (w:World):
  Calls Tryz.prog 250 #[.int .i64 u] w (Eu u w):=by
 by_cases h:0≤u;case pos=>
  have HR:=Hd (show (decide (0≤u) && decide (u < 4294967295))=decide (u < 4294967295) by rw [decide_eq_true h,Bool.true_and]);go_in;go_wp2_with fail;go_ret;exact ⟨by rw [HR.o];rfl,rfl⟩
 case neg=>
  have HR:=Hd (show (decide (0≤u) && decide (u < 4294967295))=false by rw [decide_eq_false h,Bool.false_and]);go_in;go_wp2_with fail;go_ret;exact ⟨by rw [HR.o];rfl,rfl⟩
def kN (b:Bool) (x y z:Int):Int×Int×Int:=if b then (z,z,0) else if (z == x || z == y) then (x,z,0) else (0,0,1)
def LA (b:Bool) (x y z:Int) (w:World) (e:Ending) (w' :World):Prop:=e= .returned (.tuple #[.int .i64 (kN b x y z).1, .int .i64 (kN b x y z).2.1, .int .i64 (kN b x y z).2.2])∧w=w'
theorem jS {fn:Func} {i j k:Nat} (h:fn.results=#[.tmp i, .tmp j, .tmp k]) (tmps:Array Value) (w:World):(results fn tmps).run Tryz.prog w= .ok (.tuple #[tmps.getD i undef,tmps.getD j undef,tmps.getD k undef]) w:=by
 simp [results,h]
theorem uz (b:Bool) (x y z:Int) (w:World):
  Calls Tryz.prog 251 #[.bool b, .int .i64 x, .int .i64 y, .int .i64 z] w (LA b x y z w):=by
 cases b with
 | true=>
  go_in;go_wp2_with fail;refine bodyPost_ret (jS (fn:=Tryz.f251) rfl _ _) rfl ?_;exact ⟨rfl,rfl⟩
 | false=>
  cases h1:(z == x) with
  | true=>
   have HR:=Hd (show kN false x y z=(x,z,0) by unfold kN;rw [h1];rfl);go_in;go_wp2_with fail;refine bodyPost_ret (jS (fn:=Tryz.f251) rfl _ _) rfl ?_;exact ⟨by rw [HR.o];rfl,rfl⟩
  | false=>
   cases h2:(z == y) with
   | true=>
    have HR:=Hd (show kN false x y z=(x,z,0) by unfold kN;rw [h1,h2];rfl);go_in;go_wp2_with fail;refine bodyPost_ret (jS (fn:=Tryz.f251) rfl _ _) rfl ?_;exact ⟨by rw [HR.o];rfl,rfl⟩
   | false=>
    have HR:=Hd (show kN false x y z=(0,0,1) by unfold kN;rw [h1,h2];rfl);go_in;go_wp2_with fail;refine bodyPost_ret (jS (fn:=Tryz.f251) rfl _ _) rfl ?_;exact ⟨by rw [HR.o];rfl,rfl⟩
structure GtF (w wr:World) (gr gp:Nat) (a b:Int) (A:Option Addr) (n c:Nat) (ps:List Pm) (x:Pm):Prop where
 V:Blk wr w.heap.size 34 (tbC a b (.slice A n c))
 R:Blk wr gr 34 (tbC 0 0 (.slice none 0 0))
 X:Blk wr gp 47 (psC x.p (.slice x.A x.ds.length x.c))
 P:ax EDs wr w.heap.size x.sl x.ds
 D:jC wr w.heap.size A ps
 B:Below w.heap.size w wr
 h:w.heap.size < gr∧gr < gp
 k:x.Ok
theorem GtF.below {w wr w' :World} {gr gp n c:Nat} {a b:Int} {A:Option Addr} {ps:List Pm} {x:Pm} (h:GtF w wr gr gp a b A n c ps x) (hb:Below wr.heap.size wr w'):GtF w w' gr gp a b A n c ps x:=
 ⟨h.V.below hb,h.R.below hb,h.X.below hb,h.P.below hb,h.D.keep hb h.B.size,aa h.B hb,h.h,h.k⟩
theorem GtF.set {w wr:World} {gr gp n c i:Nat} {a b:Int} {A A2:Option Addr} {c2:Nat} {ds:List Ds} {ps:List Pm} {p p' :Pc} {v:Value} (h:GtF w wr gr gp a b A n c ps ⟨p,ds,A2,c2⟩) (e:(psC p (.slice A2 ds.length c2)).setIfInBounds i v=psC p' (.slice A2 ds.length c2)) (hk:p'.co.size≤640∧p'.ex.size≤640):
  GtF w (wr.setCell ⟨gp,i,none⟩ v) gr gp a b A n c ps ⟨p',ds,A2,c2⟩:=by
 have hh:=h.h;have hX:Blk (wr.setCell ⟨gp,i,none⟩ v) gp 47 (psC p' (.slice A2 ds.length c2)):=by
  have h1:=h.X.put i v;rw [e] at h1;exact h1
 exact ⟨h.V.af _ (by show w.heap.size≠gp;omega),h.R.af _ (by show gr≠gp;omega),hX,h.P.bU (g:=gp) (i:=i) (ay h.P h.X (by decide)) v,h.D.keep ((Below.refl _ wr).setCell (p:=⟨gp,i,none⟩) (by show w.heap.size≤gp;omega) v) (Nat.le_refl _),h.B.setCell (p:=⟨gp,i,none⟩) (by show w.heap.size≤gp;omega) v,hh,h.k.1,hk⟩
def TbP (w:World) (e:Ending) (w' :World):Prop:=∃ (a b:Int) (A:Option Addr) (n c:Nat) (k:Int),e= .returned (.tuple #[.agg (tbC a b (.slice A n c)), .int .i64 k])∧Below w.heap.size w w' ∧(k=0→∃ ps,aI w' w.heap.size (.slice A n c) ps)
theorem cZ {w wr:World} {gr:Nat} (R:Blk wr gr 34 (tbC 0 0 (.slice none 0 0))) (hB:Below w.heap.size w wr) (hg:w.heap.size≤gr) {k:Int} (hk:k≠0):TbP w (.returned (.tuple #[.agg (tbC 0 0 (.slice none 0 0)), .int .i64 k])) (wr.setRow gr (tbC 0 0 (.slice none 0 0))):=
 ⟨0,0,none,0,0,k,rfl,ai hB hg _,fun h=>absurd h hk⟩
theorem jE {w w3:World} {gr n c:Nat} {a b:Int} {A:Option Addr} {zs:List Pm} (hO:aI w3 w.heap.size (.slice A n c) zs) (R:Blk w3 gr 34 (tbC 0 0 (.slice none 0 0))) (hB:Below w.heap.size w w3) (hg:w.heap.size≤gr):
  TbP w (.returned (.tuple #[.agg (tbC a b (.slice A n c)), .int .i64 0])) (w3.setRow gr (tbC a b (.slice A n c))):=
 ⟨a,b,A,n,c,0,rfl,ai hB hg _,fun _=>⟨zs,hO.far (aA w3 gr _) (fun q e=>by injection e with e;subst e;exact hO.blk R (by decide) (by decide))⟩⟩
theorem Bw (a b:Int) (ps:List Pm) (A:Option Addr) (n c:Nat) (hn:n=ps.length) (hl:n≤16) (hk:∀ x∈ps,x.Ok) (pid:Int) (u:Int) (w:World) (h:jC w w.heap.size A ps):
   Calls Tryz.prog 212 #[.agg (tbC a b (.slice A n c)), .int .i64 pid, .int .i64 u] w (TbP w):=by
 have HN:=Hd hn;have HL:=Hd hl;have HK:=Hd hk;have B0:=Hd (show Below w.heap.size w ((w.alloc (.cells (tbC a b (.slice A n c)) 34)).alloc (.cells (tbC 0 0 (.slice none 0 0)) 34)) from ((Below.refl w.heap.size w).alloc (Nat.le_refl _) _).alloc (by simp) _);have V0:=Hd ((Blk.new w (tbC a b (.slice A n c)) 34).alloc (.cells (tbC 0 0 (.slice none 0 0)) 34));have R0:=Hd (show Blk ((w.alloc (.cells (tbC a b (.slice A n c)) 34)).alloc (.cells (tbC 0 0 (.slice none 0 0)) 34)) (w.heap.size+1) 34 (tbC 0 0 (.slice none 0 0)) by
   have h:=Blk.new (w.alloc (.cells (tbC a b (.slice A n c)) 34)) (tbC 0 0 (.slice none 0 0)) 34;simpa using h)
 have D0:=Hd (h.keep B0.o (Nat.le_refl _));clear h hn hl hk;go_in;go_upto_region 1 with fail;generalize ((w.alloc (.cells (tbC a b (.slice A n c)) 34)).alloc (.cells (tbC 0 0 (.slice none 0 0)) 34))=w0 at *;go_wp2_with ((with_reducible refine az ?_ 34 (.tmp 3) ?_ V0.o ?_ _ Tryz.underlying34 ?_ ?_ ?_);(iterate 4 rfl);exact aK _ _ _);refine (jI a b pid ps A n c HN.o w0 (D0.o.more B0.o.size)).mono ?_;rintro e w1 ⟨hb1,rfl | ⟨y,hy,A2,c2,rfl,ho⟩⟩
 · have hba:=(Below.refl w1.heap.size w1).alloc (Nat.le_refl _) (.cells (psC zPc (.slice none 0 0)) 47);have R1:=Hd ((R0.o.below hb1).below hba);have B1:=Hd (aa (aa B0.o hb1) hba);clear hba hb1 V0 R0 B0 D0;go_wp2_with ((with_reducible refine ae ?_ 34 (.tmp 6) (.tmp 19) ?_ R1.o (tbC 0 0 (.slice none 0 0)) ?_ ?_ ?_ ?_ ?_ ?_);(iterate 4 rfl);(exact aK _ _ _);rfl;(exact aO _ _ _ _ _));refine bodyPost_ret (aS (fn:=Tryz.f212) rfl _ _ (w.heap.size+1) 0 0 (.slice none 0 0) rfl (Blk.row R1.o _)) rfl ?_;exact cZ R1.o B1.o (by omega) (by decide)
 · have hba:=(Below.refl w1.heap.size w1).alloc (Nat.le_refl _) (.cells (psC y.p (.slice A2 y.ds.length c2)) 47);have hbb:=aa hb1 hba;have hr1:=(R0.o.below hb1).lt;have F1:=Hd (show GtF w (w1.alloc (.cells (psC y.p (.slice A2 y.ds.length c2)) 47)) (w.heap.size+1) w1.heap.size a b A n c ps ⟨y.p,y.ds,A2,c2⟩ from ⟨V0.o.below hbb,R0.o.below hbb,Blk.new w1 _ _,(ho.low B0.o.size).below hba,D0.o.keep hbb B0.o.size,aa B0.o hbb,⟨by omega,hr1⟩,HK.o y hy⟩);clear hba hbb hb1 V0 R0 B0 D0 ho hr1;go_upto_region 2 with fail;generalize w1.alloc (.cells (psC y.p (.slice A2 y.ds.length c2)) 47)=w2 at *;generalize w1.heap.size=gp at *;have HK2:=Hd F1.o.k.2;have hgr:=F1.o.h;go_wp2_with fail;refine (uy u w2).mono ?_;rintro e w3 ⟨rfl,rfl⟩;cases hid:(decide (0≤u) && decide (u < 4294967295));case false=>
     clear hid;go_wp2_with ((with_reducible refine ae ?_ 34 (.tmp 6) (.tmp 23) ?_ F1.o.R (tbC 0 0 (.slice none 0 0)) ?_ ?_ ?_ ?_ ?_ ?_);(iterate 4 rfl);(exact aK _ _ _);rfl;(exact aO _ _ _ _ _));refine bodyPost_ret (aS (fn:=Tryz.f212) rfl _ _ (w.heap.size+1) 0 0 (.slice none 0 0) rfl (Blk.row F1.o.R _)) rfl ?_;exact cZ F1.o.R F1.o.B (by omega) (by decide)
   clear hid;have c6:=F1.o.X.cell 6;have c3:=F1.o.X.cell 3;go_upto_region 6 with fail;go_cut [31] (fun v wx=>(∃ bb:Bool,v= .bool bb)∧w2=wx);case first=>
     by_cases hau:y.p.au=4294967295;case pos=>
       have q1:=(bE hau).2;go_wp2_with fail;go_meet;exact ⟨⟨_,rfl⟩,rfl⟩
     case neg=>
       have q1:=(aM hau).2;go_wp2_with fail;go_meet;exact ⟨⟨_,rfl⟩,rfl⟩
   case rest=>
   obtain ⟨⟨bb,rfl⟩,rfl⟩:=hcut;clear c6 c3;cases bb;case true=>
     go_wp2_with ((with_reducible refine ae ?_ 34 (.tmp 6) (.tmp 32) ?_ F1.o.R (tbC 0 0 (.slice none 0 0)) ?_ ?_ ?_ ?_ ?_ ?_);(iterate 4 rfl);(exact aK _ _ _);rfl;(exact aO _ _ _ _ _));refine bodyPost_ret (aS (fn:=Tryz.f212) rfl _ _ (w.heap.size+1) 0 0 (.slice none 0 0) rfl (Blk.row F1.o.R _)) rfl ?_;exact cZ F1.o.R F1.o.B (by omega) (by decide)
   have v1:=F1.o.V.cell 1;by_cases hb9:b=1073741824;case pos=>
     have q2:=(bE hb9).1;clear hb9;go_wp2_with ((with_reducible refine ae ?_ 34 (.tmp 6) (.tmp 36) ?_ F1.o.R (tbC 0 0 (.slice none 0 0)) ?_ ?_ ?_ ?_ ?_ ?_);(iterate 4 rfl);(exact aK _ _ _);rfl;(exact aO _ _ _ _ _));refine bodyPost_ret (aS (fn:=Tryz.f212) rfl _ _ (w.heap.size+1) 0 0 (.slice none 0 0) rfl (Blk.row F1.o.R _)) rfl ?_;exact cZ F1.o.R F1.o.B (by omega) (by decide)
   have q2:=(aM hb9).1;clear hb9;go_upto_region 10 with fail;clear v1 q2;refine wp_region_held_drew (S:=(fun W=>Blk W w.heap.size 34 (tbC a b (.slice A n c)))) (by kernel_rfl) F1.o.V (fun hHeld=>?_);have F2:=Hd (F1.o.below (Below.refl w2.heap.size w2).drew);clear F1;generalize w2.drew=w2 at *;refine tk hHeld 0 ?_ ?_ (tk hHeld 1 ?_ ?_ (tk hHeld 2 ?_ ?_ (tk hHeld 3 ?_ ?_ ?_)));iterate 4
     rotate_left
     · intro W hSw;have v1:=hSw.cell 1;go_simp;try (with_reducible rfl)
   have F3:=Hd (F2.o.set (i:=6) (v:= .int .i64 u) (p' := { y.p with au:=u }) rfl HK2.o);have F4:=Hd (F3.o.set (i:=7) (v:= .int .i64 b) (p' := { { y.p with au:=u } with se:=b }) rfl HK2.o);have c6:=F2.o.X.cell 6;have f6:=F2.o.X.free 6;have c7:=F3.o.X.cell 7;have f7:=F3.o.X.free 7;refine rdy1 4 (fun K hK=>?_);go_simp;refine hK.o _ _ F3.o.V (fun hHeld=>?_);clear hK K;refine tk hHeld 5 ?_ ?_ ?_;rotate_left
   · intro W hSw;go_simp;try (with_reducible rfl)
   refine rdy1 6 (fun K hK=>?_);go_simp;refine hK.o _ _ F4.o.V (fun hHeld=>?_);clear hK K;clear c6 f6 c7 f7 F2 F3;refine wpAnyH_done (by kernel_rfl) ?_ _;generalize (w2.setCell ⟨gp,6,none⟩ (.int .i64 u)).setCell ⟨gp,7,none⟩ (.int .i64 b)=w3 at *;generalize ({ { y.p with au:=u } with se:=b } :Pc)=p3 at *;have FH:=Hd F4.o.h;go_wp2_with (first | ((with_reducible refine az ?_ 34 (.tmp 3) ?_ F4.o.V ?_ _ Tryz.underlying34 ?_ ?_ ?_);(iterate 4 rfl);exact aK _ _ _) | ((with_reducible refine az ?_ 47 (.tmp 8) ?_ F4.o.X ?_ _ Tryz.underlying47 ?_ ?_ ?_);(iterate 4 rfl);exact gJ _ _));refine (Be a b ps A n c HN.o HL.o HK.o ⟨p3,y.ds,A2,c2⟩ F4.o.k w.heap.size w3 (F4.o.D.more F4.o.B.size) F4.o.P F4.o.B.size).mono ?_;rintro e w5 ⟨A5,n5,c5,zs,rfl,hO,hb5,_⟩;have R5:=Hd (F4.o.R.below hb5);have B5:=Hd (aa F4.o.B hb5);have O5:=Hd hO;clear hO hb5 F4;have hba:=(Below.refl w5.heap.size w5).alloc (Nat.le_refl _) (.cells (tbC a b (.slice A5 n5 c5)) 34);have R6:=Hd (R5.o.below hba);have B6:=Hd (aa B5.o hba);have O6:=Hd (O5.o.below hba);have G6:=Hd (Blk.new w5 (tbC a b (.slice A5 n5 c5)) 34);have hr5:=R5.o.lt;have hb5:=B5.o.size;clear hba R5 B5 O5;go_upto_region 12 with fail;generalize w5.alloc (.cells (tbC a b (.slice A5 n5 c5)) 34)=w6 at *;generalize w5.heap.size=go at *;have c1:=G6.o.cell 1;have f1:=G6.o.free 1;go_upto_region 13 with fail;clear c1 f1;have G7:=Hd (show Blk (w6.setCell ⟨go,1,none⟩ (.int .i64 (wrap64 (b+1)))) go 34 (tbC a (wrap64 (b+1)) (.slice A5 n5 c5)) from G6.o.put 1 _);have R7:=Hd (R6.o.af (p:=⟨go,1,none⟩) (.int .i64 (wrap64 (b+1))) (by show w.heap.size+1≠go;omega));have B7:=Hd (B6.o.setCell (p:=⟨go,1,none⟩) (by show w.heap.size≤go;omega) (.int .i64 (wrap64 (b+1))));have O7:=Hd (O6.o.far (ak w6 go 1 (.int .i64 (wrap64 (b+1)))) (fun q e=>by injection e with e;subst e;exact O6.o.blk G6.o (by decide) (by decide)));clear G6 R6 B6 O6;generalize wrap64 (b+1)=b7 at *;generalize w6.setCell ⟨go,1,none⟩ (.int .i64 b7)=w7 at *;go_wp2_with (first | ((with_reducible refine az ?_ 34 (.tmp 10) ?_ G7.o ?_ _ Tryz.underlying34 ?_ ?_ ?_);(iterate 4 rfl);exact aK _ _ _) | ((with_reducible refine ae ?_ 34 (.tmp 6) (.tmp 49) ?_ R7.o (tbC a b7 (.slice A5 n5 c5)) ?_ ?_ ?_ ?_ ?_ ?_);(iterate 4 rfl);(exact aK _ _ _);rfl;(exact aO _ _ _ _ _)));refine bodyPost_ret (aS (fn:=Tryz.f212) rfl _ _ (w.heap.size+1) a b7 (.slice A5 n5 c5) rfl (Blk.row R7.o _)) rfl ?_;exact jE O7.o R7.o B7.o (by omega)
theorem TcF.Jn {w wr:World} {go gx i:Nat} {a b:Int} {v V:Value} {ys ps:List Pm} {A:Option Addr} {cs:Array Value} (h:TcF w wr go a b v ys V A ps) (hX:Blk wr gx 47 cs) (hq:v.ownBlock≠some gx) (hgo:go < gx) (u:Value):TcF w (wr.setCell ⟨gx,i,none⟩ u) go a b v ys V A ps:=by
 have hh:=h.h;exact ⟨h.O.far (ak wr gx i u) (fun q e=>by injection e with e;subst e;exact ⟨hq,fun x hx=>ay (h.O.op x hx).1 hX (by decide)⟩),h.G.af _ (by show go≠gx;omega),h.R.af _ (by show w.heap.size+1≠gx;omega),h.V.af _ (by show w.heap.size≠gx;omega),h.D.keep ((Below.refl _ wr).setCell (p:=⟨gx,i,none⟩) (by show w.heap.size≤gx;omega) u) (Nat.le_refl _),h.B.setCell (p:=⟨gx,i,none⟩) (by show w.heap.size≤gx;omega) u,hh⟩
theorem zB (a b:Int) (ps:List Pm) (A:Option Addr) (n c:Nat) (hn:n=ps.length) (hl:n≤16) (hk:∀ x∈ps,x.Ok) (pid:Int) (w:World) (h:jC w w.heap.size A ps):
   Calls Tryz.prog 209 #[.agg (tbC a b (.slice A n c)), .int .i64 pid] w (TbP w):=by
 have HN:=Hd hn;have HL:=Hd hl;have HK:=Hd hk;have hb0:=aT w (tbC a b (.slice A n c)) (tbC 0 0 (.slice none 0 0)) 34 34;have h2:=Blk.new (w.alloc (.cells (tbC a b (.slice A n c)) 34)) (tbC 0 0 (.slice none 0 0)) 34;simp only [World.size_alloc] at h2;have B0:=Hd hb0;have V0:=Hd ((Blk.new w (tbC a b (.slice A n c)) 34).alloc (.cells (tbC 0 0 (.slice none 0 0)) 34));have R0:=Hd h2;have D0:=Hd (h.keep hb0 (Nat.le_refl _));clear h hn hl hk hb0 h2;go_in;go_upto_region 1 with fail;generalize ((w.alloc (.cells (tbC a b (.slice A n c)) 34)).alloc (.cells (tbC 0 0 (.slice none 0 0)) 34))=w0 at *;go_wp2_with ((with_reducible refine az ?_ 34 (.tmp 2) ?_ V0.o ?_ _ Tryz.underlying34 ?_ ?_ ?_);(iterate 4 rfl);exact aK _ _ _);refine (jI a b pid ps A n c HN.o w0 (D0.o.more B0.o.size)).mono ?_;rintro e w1 ⟨hb1,rfl | ⟨y,hy,A2,c2,rfl,ho⟩⟩
 · have hba:=(Below.refl w1.heap.size w1).alloc (Nat.le_refl _) (.cells (psC zPc (.slice none 0 0)) 47);have hbb:=aa hb1 hba;have R1:=Hd (R0.o.below hbb);have V1:=Hd (V0.o.below hbb);have B1:=Hd (aa B0.o hbb);have D1:=Hd (D0.o.keep hbb B0.o.size);clear hba hbb hb1 V0 R0 B0 D0;go_wp2_with ((with_reducible refine ae ?_ 34 (.tmp 4) (.tmp 19) ?_ R1.o (tbC 0 0 (.slice none 0 0)) ?_ ?_ ?_ ?_ ?_ ?_);(iterate 4 rfl);(exact aK _ _ _);rfl;(exact aO _ _ _ _ _));refine bodyPost_ret (aS (fn:=Tryz.f209) rfl _ _ (w.heap.size+1) 0 0 (.slice none 0 0) rfl (Blk.row R1.o _)) rfl ?_;exact cZ R1.o B1.o (by omega) (by decide)
 · have hba:=(Below.refl w1.heap.size w1).alloc (Nat.le_refl _) (.cells (psC y.p (.slice A2 y.ds.length c2)) 47);have hbb:=aa hb1 hba;have R1:=Hd (R0.o.below hbb);have V1:=Hd (V0.o.below hbb);have B1:=Hd (aa B0.o hbb);have D1:=Hd (D0.o.keep hbb B0.o.size);clear hba hbb hb1 V0 R0 B0 D0 ho hy;go_upto_region 4 with fail;generalize w1.alloc (.cells (psC y.p (.slice A2 y.ds.length c2)) 47)=w2 at *
   skip
   by_cases h1:pid=1;case pos=>
    subst h1;go_wp2_with ((with_reducible refine ae ?_ 34 (.tmp 4) (.tmp 22) ?_ R1.o (tbC 0 0 (.slice none 0 0)) ?_ ?_ ?_ ?_ ?_ ?_);(iterate 4 rfl);(exact aK _ _ _);rfl;(exact aO _ _ _ _ _));refine bodyPost_ret (aS (fn:=Tryz.f209) rfl _ _ (w.heap.size+1) 0 0 (.slice none 0 0) rfl (Blk.row R1.o _)) rfl ?_;exact cZ R1.o B1.o (by omega) (by decide)
   have p1:=(aM h1).1;clear h1;have v0:=V1.o.cell 0;have v1:=V1.o.cell 1;have hba:=(Below.refl w2.heap.size w2).alloc (Nat.le_refl _) (.cells (tbC a b (.slice none 0 0)) 34);have F1:=Hd (show TcF w (w2.alloc (.cells (tbC a b (.slice none 0 0)) 34)) w2.heap.size a b (.slice none 0 0) [] (.slice A n c) A ps from ⟨aI.nil _ _,Blk.new w2 _ _,R1.o.below hba,V1.o.below hba,D1.o.keep hba B1.o.size,aa B1.o hba,R1.o.lt⟩);go_upto_region 7 with fail;clear v0 v1 p1 hba V1 R1 B1 D1;generalize w2.alloc (.cells (tbC a b (.slice none 0 0)) 34)=w4 at *;generalize w2.heap.size=go at *;go_wp2_with fail;go_loopw [9,10] (fun i _p wr=>∃ (k:Nat) (A0:Option Addr) (n0 c0:Nat) (ys:List Pm),k≤ps.length∧i= .int .i64 k∧Hid (ys.length≤k)∧Hid (TcF w wr go a b (.slice A0 n0 c0) ys (.slice A n c) A ps)) (fun i _ _=>ps.length - (intOf i).toNat);case atStart=>exact ⟨0,none,0,0, [],Nat.zero_le _,rfl,Hd (Nat.le_refl _),F1⟩
   case round=>
    clear F1;obtain ⟨k,A0,n0,c0,ys,hk,rfl,HY,HF⟩:=hrel;have v2:=HF.o.V.cell 2;have hn:=HN.o;by_cases hlt:k < ps.length;case pos=>
     have k1:(k:Int) < (n:Int):=(by omega);have k2:(0:Int)≤(k:Int):=(by omega);have WK:=Hd (bz hk (by have:=HL.o;omega));have HKL:=Hd (show k+1≤16 by have:=HL.o;omega);clear hn;obtain ⟨am,rfl,hab,hcx⟩:=HF.o.D.at_ k hlt;have HXA:=Hd (HF.o.D.opens _ (List.getElem_mem hlt)).1;have HXK:=Hd (HK.o _ (List.getElem_mem hlt));generalize ps[k]=x at *;obtain ⟨⟨m0,m1,m2,m3,m4,m5,m6⟩,m7,m8,m9,m10,m11,m12,m13⟩:=dO (a:=am.add (k * 14)) hcx;clear hcx;go_wp2_with fail;clear m0 m1 m2 m3 m4 m5 m6 m7 m8 m9 m10 m11 m12 m13 v2 k1;refine (qd x.p x.ds x.A x.ds.length x.c rfl (by have:=HXK.o.1;omega) wr (HXA.o.more HF.o.B.size)).mono ?_;rintro e w3 ⟨A3,c3,rfl,ho3,hb3⟩;have hba:=(Below.refl w3.heap.size w3).alloc (Nat.le_refl _) (.cells (psC x.p (.slice A3 x.ds.length c3)) 47);have F3:=Hd ((HF.o.below hb3).below hba);have O3:=Hd ((ho3.low HF.o.B.size).below hba);have X3:=Hd (Blk.new w3 (psC x.p (.slice A3 x.ds.length c3)) 47);have HQ:=Hd (show (Value.slice A0 n0 c0).ownBlock≠some w3.heap.size from fun e=>by have:=(HF.o.below hb3).O.own.lt _ e;omega);have hgo:=(HF.o.below hb3).G.lt;clear hba hb3 ho3 HF HXA;go_upto_region 11 with fail;generalize w3.alloc (.cells (psC x.p (.slice A3 x.ds.length c3)) 47)=w5 at *;generalize w3.heap.size=gx at *;have x1:=X3.o.cell 1;have g1:=X3.o.free 1;go_upto_if 44 with fail;go_cut [] (fun wx=>∃ p' :Pc,(p'.co.size≤640∧p'.ex.size≤640)∧TcF w wx go a b (.slice A0 n0 c0) ys (.slice (some am) n c) (some am) ps∧ax EDs wx w.heap.size (.slice A3 x.ds.length c3) x.ds∧Blk wx gx 47 (psC p' (.slice A3 x.ds.length c3)));case first=>
      by_cases hpp:x.p.pp=pid;case pos=>
       have q1:=(bE hpp).1;have F5:=F3.o.Jn (i:=1) X3.o HQ.o hgo (.int .i64 1);have O5:=O3.o.bU (g:=gx) (i:=1) (ay O3.o X3.o (by decide)) (.int .i64 1);have X5:Blk _ gx 47 (psC { x.p with pp:=1 } (.slice A3 x.ds.length c3)):=X3.o.put 1 (.int .i64 1);go_wp2_with fail;go_meet;exact ⟨{ x.p with pp:=1 },HXK.o.2,F5,O5,X5⟩
      case neg=>
       have q1:=(aM hpp).1;go_wp2_with fail;go_meet;exact ⟨x.p,HXK.o.2,F3.o,O3.o,X3.o⟩
     case rest=>
     obtain ⟨p',hz,hf,ho,hx⟩:=hcut;clear x1 g1 F3 O3 X3;generalize wc=w6 at *;have F6:=Hd hf;have O6:=Hd ho;have X6:=Hd hx;have HZ:=Hd hz;clear hf ho hx hz;have x0:=X6.o.cell 0;by_cases Bz:p'.pid=pid;case pos=>
      have q1:=(bE Bz).2;obtain ⟨wk1,wk2⟩:=WK.o;go_wp2_with fail;clear wk1 wk2 q1 x0;go_roundw;case rel=>exact ⟨k+1,A0,n0,c0,ys,hlt,rfl,Hd (by have:=HY.o;omega),F6⟩
      case measure=>exact aN hlt _ rfl
     case neg=>
      have q1:=(aM Bz).2;go_upto_region 14 with fail;clear q1 x0;have hba:=(Below.refl w6.heap.size w6).alloc (Nat.le_refl _) (.cells (psC p' (.slice A3 x.ds.length c3)) 47);have F7:=Hd (F6.o.below hba);have O7:=Hd (show ax EDs (w6.alloc (.cells (psC p' (.slice A3 x.ds.length c3)) 47)) w.heap.size (⟨p',x.ds,A3,c3⟩:Pm).sl x.ds from O6.o.below hba);have RW:=Hd (aJ EPc w6 (psC p' (.slice A3 x.ds.length c3)) 47 (⟨p',x.ds,A3,c3⟩:Pm) rfl (Nat.lt_succ_self w6.heap.size));have g2:=F6.o.G.cell 2;clear hba F6 O6;go_wp2_with (first | ((with_reducible refine az ?_ 47 (.tmp 10) ?_ X6.o ?_ _ Tryz.underlying47 ?_ ?_ ?_);(iterate 4 rfl);exact gJ _ _) | (at_builtin;refine aj EPc rfl (.tmp 51) (.tmp 53) rfl w.heap.size (.slice A0 n0 c0) ys rfl F7.o.O.own (w6.heap.size+1) (some ⟨w6.heap.size,0,none⟩) 1 1 [(⟨p',x.ds,A3,c3⟩:Pm)] rfl rfl RW.o (by have:=HY.o;have:=HKL.o;simp;omega) F7.o.B.size ?_));intro v8 w8 ho8 hg8 tq;clear g2;obtain ⟨A9,c9,e9,_⟩:=ho8.at;rw [show (ys ++ [(⟨p',x.ds,A3,c3⟩:Pm)]).length=ys.length+1 by simp] at e9;subst e9;have HG8:=F7.o.G.grown hg8 (ay F7.o.O.own F7.o.G (by decide));have F9:=Hd (F7.o.app (x:=(⟨p',x.ds,A3,c3⟩:Pm)) ⟨O7.o,HXK.o.1,HZ.o⟩ ho8 hg8 (by have:=HY.o;have:=HKL.o;omega));have HY9:=Hd (show (ys ++ [(⟨p',x.ds,A3,c3⟩:Pm)]).length≤k+1 by have:=HY.o;rw [List.length_append];show ys.length+1≤_;omega);have c2:=HG8.cell 2;have f2:=HG8.free 2;clear ho8 hg8 tq RW O7 F7 X6 HG8;generalize ys.length+1=yl at *;obtain ⟨wk1,wk2⟩:=WK.o;go_wp2_with fail;clear wk1 wk2 c2 f2;go_roundw;case rel=>exact ⟨k+1,A9,yl,c9,_,hlt,rfl,HY9,F9⟩
      case measure=>exact aN hlt _ rfl
    case neg=>
     have k1:¬ (k:Int) < (n:Int):=(by omega);clear hn;go_wp2_with (first | ((with_reducible refine az ?_ 34 (.tmp 8) ?_ HF.o.G ?_ _ Tryz.underlying34 ?_ ?_ ?_);(iterate 4 rfl);exact aK _ _ _) | ((with_reducible refine ae ?_ 34 (.tmp 4) (.tmp 56) ?_ HF.o.R (tbC a b (.slice A0 n0 c0)) ?_ ?_ ?_ ?_ ?_ ?_);(iterate 4 rfl);(exact aK _ _ _);rfl;(exact aO _ _ _ _ _)));refine bodyPost_ret (aS (fn:=Tryz.f209) rfl _ _ (w.heap.size+1) a b (.slice A0 n0 c0) rfl (Blk.row HF.o.R _)) rfl ?_;exact jE HF.o.O HF.o.R HF.o.B (by omega)
theorem EU (a b:Int) (ps:List Pm) (A:Option Addr) (n c:Nat) (hn:n=ps.length) (hl:n≤16) (hk:∀ x∈ps,x.Ok) (pid tg:Int) (en:Bool) (w:World) (h:jC w w.heap.size A ps):
   Calls Tryz.prog 215 #[.agg (tbC a b (.slice A n c)), .int .i64 pid, .int .i64 tg, .bool en] w (TbP w):=by
 have HN:=Hd hn;have HL:=Hd hl;have HK:=Hd hk;have hb0:=aT w (tbC a b (.slice A n c)) (tbC 0 0 (.slice none 0 0)) 34 34;have h2:=Blk.new (w.alloc (.cells (tbC a b (.slice A n c)) 34)) (tbC 0 0 (.slice none 0 0)) 34;simp only [World.size_alloc] at h2;have B0:=Hd hb0;have V0:=Hd ((Blk.new w (tbC a b (.slice A n c)) 34).alloc (.cells (tbC 0 0 (.slice none 0 0)) 34));have R0:=Hd h2;have D0:=Hd (h.keep hb0 (Nat.le_refl _));clear h hn hl hk hb0 h2;go_in;go_upto_region 1 with fail;generalize ((w.alloc (.cells (tbC a b (.slice A n c)) 34)).alloc (.cells (tbC 0 0 (.slice none 0 0)) 34))=w0 at *;go_wp2_with ((with_reducible refine az ?_ 34 (.tmp 4) ?_ V0.o ?_ _ Tryz.underlying34 ?_ ?_ ?_);(iterate 4 rfl);exact aK _ _ _);refine (jI a b pid ps A n c HN.o w0 (D0.o.more B0.o.size)).mono ?_;rintro e w1 ⟨hb1,rfl | ⟨y,hy,A2,c2,rfl,ho⟩⟩
 · have hba:=(Below.refl w1.heap.size w1).alloc (Nat.le_refl _) (.cells (psC zPc (.slice none 0 0)) 47);have hbb:=aa hb1 hba;have R1:=Hd (R0.o.below hbb);have B1:=Hd (aa B0.o hbb);clear hba hbb hb1 V0 R0 B0 D0;go_wp2_with ((with_reducible refine ae ?_ 34 (.tmp 8) (.tmp 21) ?_ R1.o (tbC 0 0 (.slice none 0 0)) ?_ ?_ ?_ ?_ ?_ ?_);(iterate 4 rfl);(exact aK _ _ _);rfl;(exact aO _ _ _ _ _));refine bodyPost_ret (aS (fn:=Tryz.f215) rfl _ _ (w.heap.size+1) 0 0 (.slice none 0 0) rfl (Blk.row R1.o _)) rfl ?_;exact cZ R1.o B1.o (by omega) (by decide)
 · have hba:=(Below.refl w1.heap.size w1).alloc (Nat.le_refl _) (.cells (psC y.p (.slice A2 y.ds.length c2)) 47);have hbb:=aa hb1 hba;have hr1:=(R0.o.below hb1).lt;have F1:=Hd (show GtF w (w1.alloc (.cells (psC y.p (.slice A2 y.ds.length c2)) 47)) (w.heap.size+1) w1.heap.size a b A n c ps ⟨y.p,y.ds,A2,c2⟩ from ⟨V0.o.below hbb,R0.o.below hbb,Blk.new w1 _ _,(ho.low B0.o.size).below hba,D0.o.keep hbb B0.o.size,aa B0.o hbb,⟨by omega,hr1⟩,HK.o y hy⟩);clear hba hbb hb1 V0 R0 B0 D0 ho hr1 hy;go_upto_region 4 with fail;generalize w1.alloc (.cells (psC y.p (.slice A2 y.ds.length c2)) 47)=w2 at *;generalize w1.heap.size=gp at *;go_wp2_with ((with_reducible refine az ?_ 34 (.tmp 4) ?_ F1.o.V ?_ _ Tryz.underlying34 ?_ ?_ ?_);(iterate 4 rfl);exact aK _ _ _);refine (jI a b tg ps A n c HN.o w2 (F1.o.D.more F1.o.B.size)).mono ?_;rintro e w3 ⟨hb3,rfl | ⟨z,hz,A3,c3,rfl,ho3⟩⟩
   · have hba:=(Below.refl w3.heap.size w3).alloc (Nat.le_refl _) (.cells (psC zPc (.slice none 0 0)) 47);have F3:=Hd (F1.o.below (aa hb3 hba));clear hba hb3 F1;go_wp2_with ((with_reducible refine ae ?_ 34 (.tmp 8) (.tmp 30) ?_ F3.o.R (tbC 0 0 (.slice none 0 0)) ?_ ?_ ?_ ?_ ?_ ?_);(iterate 4 rfl);(exact aK _ _ _);rfl;(exact aO _ _ _ _ _));refine bodyPost_ret (aS (fn:=Tryz.f215) rfl _ _ (w.heap.size+1) 0 0 (.slice none 0 0) rfl (Blk.row F3.o.R _)) rfl ?_;exact cZ F3.o.R F3.o.B (by omega) (by decide)
   · have hba:=(Below.refl w3.heap.size w3).alloc (Nat.le_refl _) (.cells (psC z.p (.slice A3 z.ds.length c3)) 47);have F3:=Hd (F1.o.below (aa hb3 hba));have Q3:=Hd (Blk.new w3 (psC z.p (.slice A3 z.ds.length c3)) 47);clear hba hb3 F1 ho3 hz;go_upto_region 7 with fail;generalize w3.alloc (.cells (psC z.p (.slice A3 z.ds.length c3)) 47)=w4 at *;generalize w3.heap.size=gq at *;have x3:=F3.o.X.cell 3;have q2:=Q3.o.cell 2;go_cut [44] (fun u wx=>(∃ bb:Bool,u= .bool bb)∧w4=wx);case first=>
      by_cases h1:tg=1;case pos=>
       have e1:=(bE h1).1;clear h1;go_wp2_with fail;go_meet;exact ⟨⟨_,rfl⟩,rfl⟩
      case neg=>
       have e1:=(aM h1).1;clear h1;by_cases h2:y.p.eu=0;case pos=>
        have e2:=(bE h2).2;clear h2;go_wp2_with fail;go_meet;exact ⟨⟨_,rfl⟩,rfl⟩
       case neg=>
        have e2:=(aM h2).2;clear h2;go_wp2_with fail;go_meet;exact ⟨⟨_,rfl⟩,rfl⟩
     case rest=>
     obtain ⟨⟨bb,rfl⟩,rfl⟩:=hcut;clear x3 q2 Q3;cases bb;case true=>
      go_wp2_with ((with_reducible refine ae ?_ 34 (.tmp 8) (.tmp 45) ?_ F3.o.R (tbC 0 0 (.slice none 0 0)) ?_ ?_ ?_ ?_ ?_ ?_);(iterate 4 rfl);(exact aK _ _ _);rfl;(exact aO _ _ _ _ _));refine bodyPost_ret (aS (fn:=Tryz.f215) rfl _ _ (w.heap.size+1) 0 0 (.slice none 0 0) rfl (Blk.row F3.o.R _)) rfl ?_;exact cZ F3.o.R F3.o.B (by omega) (by decide)
     cases en;case false=>
      go_wp2_with ((with_reducible refine az ?_ 34 (.tmp 4) ?_ F3.o.V ?_ _ Tryz.underlying34 ?_ ?_ ?_);(iterate 4 rfl);exact aK _ _ _);refine (qo a b ps A n c HN.o HL.o HK.o w4 (F3.o.D.more F3.o.B.size)).mono ?_;rintro e w5 ⟨A5,n5,c5,zs,rfl,hO,hb5,_⟩;have R5:=Hd (F3.o.R.below hb5);have B5:=Hd (aa F3.o.B hb5);have O5:=Hd (hO.low F3.o.B.size);clear hO hb5 F3;go_wp2_with ((with_reducible refine ae ?_ 34 (.tmp 8) (.tmp 53) ?_ R5.o (tbC a b (.slice A5 n5 c5)) ?_ ?_ ?_ ?_ ?_ ?_);(iterate 4 rfl);(exact aK _ _ _);rfl;(exact aO _ _ _ _ _));refine bodyPost_ret (aS (fn:=Tryz.f215) rfl _ _ (w.heap.size+1) a b (.slice A5 n5 c5) rfl (Blk.row R5.o _)) rfl ?_;exact jE O5.o R5.o B5.o (by omega)
     case true=>
      go_wp2_with ((with_reducible refine az ?_ 34 (.tmp 4) ?_ F3.o.V ?_ _ Tryz.underlying34 ?_ ?_ ?_);(iterate 4 rfl);exact aK _ _ _);refine (zB a b ps A n c HN.o HL.o HK.o tg w4 (F3.o.D.more F3.o.B.size)).mono ?_;rintro e w5 ⟨a5,b5,A5,n5,c5,k5,rfl,hb5,hO⟩;have R5:=Hd (F3.o.R.below hb5);have B5:=Hd (aa F3.o.B hb5);have HO:=Hd (fun h=>(hO h).imp fun zs hz=>hz.low F3.o.B.size);clear hO hb5 F3;go_wp2_with ((with_reducible refine ae ?_ 34 (.tmp 8) (.tmp 50) ?_ R5.o (tbC a5 b5 (.slice A5 n5 c5)) ?_ ?_ ?_ ?_ ?_ ?_);(iterate 4 rfl);(exact aK _ _ _);rfl;(exact aO _ _ _ _ _));refine bodyPost_ret (aS (fn:=Tryz.f215) rfl _ _ (w.heap.size+1) a5 b5 (.slice A5 n5 c5) rfl (Blk.row R5.o _)) rfl ?_;refine ⟨a5,b5,A5,n5,c5,k5,rfl,ai B5.o (by omega) _,fun h=>?_⟩;obtain ⟨zs,hz⟩:=HO.o h;exact ⟨zs,hz.far (aA w5 (w.heap.size+1) _) (fun q e=>by injection e with e;subst e;exact hz.blk R5.o (by decide) (by decide))⟩
end Go.Proofs.YtollifnnpihfdaaGreatDoor
