import Derived.Test.YtollifnnpihfdaaGreatDoorW19
set_option maxRecDepth 100000
set_option maxHeartbeats 64000000
set_option linter.all false
namespace Go.Proofs.YtollifnnpihfdaaGreatDoor
open Go.RowKit
structure Ds where
 fd:Int
 d:Int
 i:Int
 fl:Int
structure Pc where
 pid:Int
 pp:Int
 ui:Int
 eu:Int
 gi:Int
 eg:Int
 au:Int
 se:Int
 cd:Int
 ci:Int
 co:ByteArray
 ex:ByteArray
 dl:Bool
structure Pm where
 p:Pc
 ds:List Ds
 A:Option Addr
 c:Nat
def Pm.sl (x:Pm):Value:= .slice x.A x.ds.length x.c
abbrev psC (p:Pc) (v:Value):Array Value:=#[.int .i64 p.pid, .int .i64 p.pp, .int .i64 p.ui, .int .i64 p.eu, .int .i64 p.gi, .int .i64 p.eg, .int .i64 p.au, .int .i64 p.se, .int .i64 p.cd, .int .i64 p.ci, .string p.co, .string p.ex,v, .bool p.dl]
def zPc:Pc:=⟨0,0,0,0,0,0,0,0,0,0,⟨#[]⟩,⟨#[]⟩,false⟩
theorem Tryz.DL:(Tryz.prog.info? 320).map (fun i=>(i.zero,i.size,i.bytes))=some (some (.agg #[.int .i64 0, .int .i64 0, .int .i64 0, .int .i64 0]),4,32):=by kernel_rfl
theorem Tryz.DR:(Tryz.prog.info? 47).map (fun i=>(i.zero,i.size,i.bytes))=some (some (.agg (psC zPc (.slice none 0 0))),14,144):=by kernel_rfl
def EDs:El Ds where
 C x:= [.int .i64 x.fd, .int .i64 x.d, .int .i64 x.i, .int .i64 x.fl]
 e:=320
 sl:=45
 sz:=4
 bs:=32
 len _:=rfl
 one x u hu:=by simp at hu;rcases hu with rfl | rfl | rfl | rfl <;> rfl
 pos:=by omega
 small:=by omega
 hu:=Tryz.underlying45
 info:=by
  obtain ⟨i0,h1,h2,h3,h4⟩:=info_parts Tryz.DL;exact ⟨i0,_,h1,h2,h3,h4,rfl⟩
def EPc:El Pm where
 C x:= [.int .i64 x.p.pid, .int .i64 x.p.pp, .int .i64 x.p.ui, .int .i64 x.p.eu, .int .i64 x.p.gi, .int .i64 x.p.eg, .int .i64 x.p.au, .int .i64 x.p.se, .int .i64 x.p.cd, .int .i64 x.p.ci, .string x.p.co, .string x.p.ex, .slice x.A x.ds.length x.c, .bool x.p.dl]
 e:=47
 sl:=32
 sz:=14
 bs:=144
 len _:=rfl
 one x u hu:=by simp at hu;rcases hu with rfl | rfl | rfl | rfl | rfl | rfl | rfl | rfl | rfl | rfl | rfl | rfl | rfl | rfl <;> rfl
 pos:=by omega
 small:=by omega
 hu:=Tryz.underlying32
 info:=by
  obtain ⟨i0,h1,h2,h3,h4⟩:=info_parts Tryz.DR;exact ⟨i0,_,h1,h2,h3,h4,rfl⟩
structure jC (w:World) (B:Nat) (A:Option Addr) (ps:List Pm):Prop where
 at_:AtE EPc w B A ps
 few:ps.length≤1000
 opens:∀ x∈ps,AtE EDs w B x.A x.ds∧x.ds.length≤1000
section
variable {w w' :World} {B B' :Nat} {A:Option Addr} {ps:List Pm}
theorem jC.keep (h:jC w B A ps) (hb:Below B' w w') (hB:B≤B'):jC w' B A ps:=
 ⟨h.at_.keep hb hB,h.few,fun x hx=>⟨(h.opens x hx).1.keep hb hB,(h.opens x hx).2⟩⟩
theorem jC.more (h:jC w B A ps) (hB:B≤B'):jC w B' A ps:=
 ⟨h.at_.more hB,h.few,fun x hx=>⟨(h.opens x hx).1.more hB,(h.opens x hx).2⟩⟩
theorem jC.below (h:jC w w.heap.size A ps) (hb:Below w.heap.size w w'):jC w' w'.heap.size A ps:=(h.keep hb (Nat.le_refl _)).more hb.size
end
theorem gJ (p:Pc) (v:Value):(Tryz.prog.info? 47).map (·.size)=some (psC p v).size:=by show _=some 14;kernel_rfl
theorem pY (p:Pc) (A:Option Addr) (n c:Nat):(psC p (.slice A n c)).all (·.oneCell')=true:=by simp [Value.oneCell']
theorem Eh {fn:Func} {i:Nat} (h:fn.results=#[.cell i 47]) (tmps:Array Value) (w:World) (g:Nat) (p:Pc) (v:Value) (hp:tmps.getD i undef= .pointer (some ⟨g,0,none⟩)) (hg:Blk w g 47 (psC p v)):
  (results fn tmps).run Tryz.prog w= .ok (.agg (psC p v)) w:=
 results_cell_row h tmps w g _ (psC p v) (0,0) _ hp hg Tryz.underlying47 rfl (gJ p v)
def CpP (p:Pc) (ds:List Ds) (w:World) (e:Ending) (w' :World):Prop:=∃ (A:Option Addr) (c:Nat),e= .returned (.agg (psC p (.slice A ds.length c)))∧ax EDs w' w.heap.size (.slice A ds.length c) ds∧Below w.heap.size w w'
theorem qd (p:Pc) (ds:List Ds) (A:Option Addr) (n c:Nat) (hn:n=ds.length) (hl:n≤1000) (w:World) (h:AtE EDs w w.heap.size A ds):
  Calls Tryz.prog 132 #[.agg (psC p (.slice A n c))] w (CpP p ds w):=by
 have HN:=Hd hn;have HL:=Hd hl;have hb0:=aT w (psC p (.slice A n c)) (psC zPc (.slice none 0 0)) 47 47;have h2:=Blk.new (w.alloc (.cells (psC p (.slice A n c)) 47)) (psC zPc (.slice none 0 0)) 47;simp only [World.size_alloc] at h2;have B0:=Hd hb0;have P0:=Hd ((Blk.new w (psC p (.slice A n c)) 47).alloc (.cells (psC zPc (.slice none 0 0)) 47));have R0:=Hd h2;have D0:=Hd (h.below hb0);have HW:=Hd (show ((w.alloc (.cells (psC p (.slice A n c)) 47)).alloc (.cells (psC zPc (.slice none 0 0)) 47)).heap.size=w.heap.size+1+1 by simp);clear h hn hl hb0 h2;go_in;go_upto_region 1 with fail;have hz:psC zPc (.slice none 0 0)=#[.int .i64 0, .int .i64 0, .int .i64 0, .int .i64 0, .int .i64 0, .int .i64 0, .int .i64 0, .int .i64 0, .int .i64 0, .int .i64 0, .string ⟨#[]⟩, .string ⟨#[]⟩, .slice none 0 0, .bool false]:=rfl;rw [hz] at B0 P0 R0 D0 HW;clear hz;generalize (w.alloc (.cells (psC p (.slice A n c)) 47)).alloc (.cells #[.int .i64 0, .int .i64 0, .int .i64 0, .int .i64 0, .int .i64 0, .int .i64 0, .int .i64 0, .int .i64 0, .int .i64 0, .int .i64 0, .string ⟨#[]⟩, .string ⟨#[]⟩, .slice none 0 0, .bool false] 47)=w0 at *;have c12:=P0.o.cell 12;go_wp2_with (refine aj EDs rfl (.const (.slice none 0 0)) (.tmp 4) rfl w0.heap.size (.slice none 0 0) [] rfl (ax.nil _ _) w0.heap.size A n c ds rfl HN.o D0.o (by have:=HL.o;have:=HN.o;simp;omega) (Nat.le_refl _) ?_);intro v1 w1 ho1 hg1 Lt;have ho1:ax EDs w1 w0.heap.size v1 ds:=ho1;obtain ⟨A1,c1,rfl,_⟩:=ho1.at;clear c12;have hnone:∀ {q:Nat},(Value.slice none 0 0).ownBlock≠some q:=fun e=>by cases e
 have P1:=Hd (P0.o.grown hg1 hnone);have R1:=Hd (R0.o.grown hg1 hnone);have hb1:Below w.heap.size w w1:=B0.o.grown hg1 B0.o.size (fun q e=>absurd e hnone);have gc:=ak w1 w.heap.size 12 (.slice A1 ds.length c1);have P2:=Hd (show Blk (w1.setCell ⟨w.heap.size,12,none⟩ (.slice A1 ds.length c1)) w.heap.size 47 (psC p (.slice A1 ds.length c1)) from P1.o.put 12 _);have R2:=Hd (R1.o.grown gc (fun e=>by injection e with e;omega));have O2:=Hd (ho1.far gc (fun q e r=>by injection r with r;have:=ho1.ge q e;have:=HW.o;omega));have B2:=Hd (hb1.setCell (p:=⟨w.heap.size,12,none⟩) (Nat.le_refl _) (.slice A1 ds.length c1));have c12:=P1.o.cell 12;have f12:=P1.o.free 12;clear gc ho1 hg1 Lt hb1 R1 P0 R0 B0 D0;go_upto_region 2 with fail;clear c12 f12 P1;generalize w1.setCell ⟨w.heap.size,12,none⟩ (.slice A1 ds.length c1)=w2 at *;go_wp2_with (first | ((with_reducible refine az ?_ 47 (.tmp 1) ?_ P2.o ?_ _ Tryz.underlying47 ?_ ?_ ?_);(iterate 4 rfl);exact gJ _ _) | ((with_reducible refine ae ?_ 47 (.tmp 2) (.tmp 7) ?_ R2.o (psC p (.slice A1 ds.length c1)) ?_ ?_ ?_ ?_ ?_ ?_);(iterate 4 rfl);(exact gJ _ _);rfl;(exact pY _ _ _ _)));refine bodyPost_ret (Eh (fn:=Tryz.f132) rfl _ _ (w.heap.size+1) p (.slice A1 ds.length c1) rfl (Blk.row R2.o _)) rfl ?_;have gr:=aA w2 (w.heap.size+1) (psC p (.slice A1 ds.length c1));exact ⟨A1,c1,rfl,(O2.o.far gr (fun q e r=>by injection r with r;have:=O2.o.ge q e;have:=HW.o;omega)).low (by have:=HW.o;omega),ai B2.o (by omega) _⟩
abbrev tbC (a b:Int) (v:Value):Array Value:=#[.int .i64 a, .int .i64 b,v]
theorem uj {fn:Func} {i j:Nat} (h:fn.results=#[.cell i 47, .tmp j]) (tmps:Array Value) (w:World) (g:Nat) (p:Pc) (v:Value) (hp:tmps.getD i undef= .pointer (some ⟨g,0,none⟩)) (hg:Blk w g 47 (psC p v)):
  (results fn tmps).run Tryz.prog w= .ok (.tuple #[.agg (psC p v),tmps.getD j undef]) w:=by
 have hp' :tmps[i]?.getD undef= .pointer (some ⟨g,0,none⟩):=by simpa using hp
 simp [results,h,hp',asAddr,run_loadVar_row w g 47 47 (psC p v) (0,0) _ hg Tryz.underlying47 rfl (gJ p v)]
theorem dO {w:World} {a:Addr} {x:Pm} (h:∀ j,j < 14→w.cell? (a.add j)=(EPc.C x)[j]?):
  (w.cell? a=some (.int .i64 x.p.pid)∧w.cell? ⟨a.block,a.off+1,none⟩=some (.int .i64 x.p.pp)∧w.cell? ⟨a.block,a.off+2,none⟩=some (.int .i64 x.p.ui)∧w.cell? ⟨a.block,a.off+3,none⟩=some (.int .i64 x.p.eu)∧w.cell? ⟨a.block,a.off+4,none⟩=some (.int .i64 x.p.gi)∧w.cell? ⟨a.block,a.off+5,none⟩=some (.int .i64 x.p.eg)∧w.cell? ⟨a.block,a.off+6,none⟩=some (.int .i64 x.p.au))∧w.cell? ⟨a.block,a.off+7,none⟩=some (.int .i64 x.p.se)∧w.cell? ⟨a.block,a.off+8,none⟩=some (.int .i64 x.p.cd)∧w.cell? ⟨a.block,a.off+9,none⟩=some (.int .i64 x.p.ci)∧w.cell? ⟨a.block,a.off+10,none⟩=some (.string x.p.co)∧w.cell? ⟨a.block,a.off+11,none⟩=some (.string x.p.ex)∧w.cell? ⟨a.block,a.off+12,none⟩=some (.slice x.A x.ds.length x.c)∧w.cell? ⟨a.block,a.off+13,none⟩=some (.bool x.p.dl):=
 ⟨⟨h 0 (by omega),h 1 (by omega),h 2 (by omega),h 3 (by omega),h 4 (by omega),h 5 (by omega),h 6 (by omega)⟩,h 7 (by omega),h 8 (by omega),h 9 (by omega),h 10 (by omega),h 11 (by omega),h 12 (by omega),h 13 (by omega)⟩
def Lu (ps:List Pm) (w:World) (e:Ending) (w' :World):Prop:=Below w.heap.size w w' ∧(e= .returned (.tuple #[.agg (psC zPc (.slice none 0 0)), .bool false])∨∃ x∈ps,∃ (A:Option Addr) (c:Nat),e= .returned (.tuple #[.agg (psC x.p (.slice A x.ds.length c)), .bool true])∧ax EDs w' w.heap.size (.slice A x.ds.length c) x.ds)
theorem jI (a b pid:Int) (ps:List Pm) (A:Option Addr) (n c:Nat) (hn:n=ps.length) (w:World) (h:jC w w.heap.size A ps):
  Calls Tryz.prog 81 #[.agg (tbC a b (.slice A n c)), .int .i64 pid] w (Lu ps w):=by
 have HN:=Hd hn;have hb0:=aT w (tbC a b (.slice A n c)) (psC zPc (.slice none 0 0)) 34 47;have h2:=Blk.new (w.alloc (.cells (tbC a b (.slice A n c)) 34)) (psC zPc (.slice none 0 0)) 47;simp only [World.size_alloc] at h2;have B0:=Hd hb0;have V0:=Hd ((Blk.new w (tbC a b (.slice A n c)) 34).alloc (.cells (psC zPc (.slice none 0 0)) 47));have R0:=Hd h2;have D0:=Hd (h.below hb0);clear h hn hb0 h2;go_in;go_upto_region 1 with fail;have hz:psC zPc (.slice none 0 0)=#[.int .i64 0, .int .i64 0, .int .i64 0, .int .i64 0, .int .i64 0, .int .i64 0, .int .i64 0, .int .i64 0, .int .i64 0, .int .i64 0, .string ⟨#[]⟩, .string ⟨#[]⟩, .slice none 0 0, .bool false]:=rfl;rw [hz] at B0 V0 R0 D0;clear hz;generalize (w.alloc (.cells (tbC a b (.slice A n c)) 34)).alloc (.cells #[.int .i64 0, .int .i64 0, .int .i64 0, .int .i64 0, .int .i64 0, .int .i64 0, .int .i64 0, .int .i64 0, .int .i64 0, .int .i64 0, .string ⟨#[]⟩, .string ⟨#[]⟩, .slice none 0 0, .bool false] 47)=w0 at *;go_wp2_with fail;go_loopw [6] (fun i wr=>∃ k:Nat,k≤ps.length∧i= .int .i64 k∧wr=w0) (fun i _=>ps.length - (intOf i).toNat);case atStart=>exact ⟨0,Nat.zero_le _,rfl,rfl⟩
 case round=>
  obtain ⟨k,hk,rfl,rfl⟩:=hrel;have v2:=V0.o.cell 2;have hn:=HN.o;have WK:=Hd (bz hk (by have:=D0.o.few;omega));by_cases hlt:k < ps.length;case neg=>
   have k1:¬ (k:Int) < (n:Int):=(by omega);clear hn;go_wp2_with ((with_reducible refine ae ?_ 47 (.tmp 4) (.tmp 28) ?_ R0.o (psC zPc (.slice none 0 0)) ?_ ?_ ?_ ?_ ?_ ?_);(iterate 4 rfl);(exact gJ _ _);rfl;(exact pY _ _ _ _));refine bodyPost_ret (uj (fn:=Tryz.f81) rfl _ _ (w.heap.size+1) zPc (.slice none 0 0) rfl (Blk.row R0.o _)) rfl ?_;exact ⟨ai B0.o (by omega) _, .inl rfl⟩
  case pos=>
   have k1:(k:Int) < (n:Int):=(by omega);have k2:(0:Int)≤(k:Int):=(by omega);obtain ⟨am,rfl,hab,hcx⟩:=D0.o.at_ k hlt;obtain ⟨⟨m0,m1,m2,m3,m4,m5,m6⟩,m7,m8,m9,m10,m11,m12,m13⟩:=dO (a:=am.add (k * 14)) hcx;have HM:=Hd (List.getElem_mem hlt);clear hcx hn;generalize ps[k]=x at *;cases hb:(x.p.pid == pid) with
   | true=>
    have HX:=Hd (D0.o.opens x HM.o);go_wp2_with fail;clear m0 m1 m2 m3 m4 m5 m6 m7 m8 m9 m10 m11 m12 m13;refine (qd x.p x.ds x.A x.ds.length x.c rfl HX.o.2 wr HX.o.1).mono ?_;rintro e w6 ⟨A6,c6,rfl,ho,hb6⟩;have R6:=Hd (R0.o.below hb6);have B6:=Hd (B0.o.trans (hb6.mono B0.o.size));have O6:=Hd ho;have Kr:w.heap.size+1 < wr.heap.size:=R0.o.lt;clear ho hb6;go_wp2_with ((with_reducible refine ae ?_ 47 (.tmp 4) (.tmp 27) ?_ R6.o (psC x.p (.slice A6 x.ds.length c6)) ?_ ?_ ?_ ?_ ?_ ?_);(iterate 4 rfl);(exact gJ _ _);rfl;(exact pY _ _ _ _));refine bodyPost_ret (uj (fn:=Tryz.f81) rfl _ _ (w.heap.size+1) x.p (.slice A6 x.ds.length c6) rfl (Blk.row R6.o _)) rfl ?_;have gr:=aA w6 (w.heap.size+1) (psC x.p (.slice A6 x.ds.length c6));exact ⟨ai B6.o (by omega) _, .inr ⟨x,HM.o,A6,c6,rfl,(O6.o.far gr (fun q e r=>by injection r with r;have:=O6.o.ge q e;omega)).low (by omega)⟩⟩
   | false=>
    clear m1 m2 m3 m4 m5 m6 m7 m8 m9 m10 m11 m12 m13;obtain ⟨wk1,wk2⟩:=WK.o;go_wp2_with fail;clear wk1 wk2;go_roundw;case rel=>exact ⟨k+1,hlt,rfl,by first | rfl | trivial⟩
    case measure=>exact aN hlt _ rfl
def Pm.Ok (x:Pm):Prop:=x.ds.length≤8∧x.p.co.size≤640∧x.p.ex.size≤640
structure aI (w:World) (base:Nat) (v:Value) (ps:List Pm):Prop where
 own:ax EPc w base v ps
 few:ps.length≤16
 op:∀ x∈ps,ax EDs w base x.sl x.ds∧x.Ok
section
variable {w w' :World} {base:Nat} {v v' :Value} {ps:List Pm}
theorem aI.at (h:aI w base v ps):∃ A c,v= .slice A ps.length c∧jC w w.heap.size A ps:=by
 obtain ⟨A,c,e,hat⟩:=h.own.at;exact ⟨A,c,e,hat,by have:=h.few;omega,fun x hx=>⟨aQ (h.op x hx).1,by have:=(h.op x hx).2.1;omega⟩⟩
theorem aI.at' {A:Option Addr} {n c:Nat} (h:aI w base (.slice A n c) ps):n=ps.length∧jC w w.heap.size A ps:=by
 obtain ⟨A',c',e,hat⟩:=h.at;injection e with e e2 e3;rw [e];exact ⟨e2,hat⟩
theorem aI.nil (w:World) (base:Nat):aI w base (.slice none 0 0) []:=⟨ax.nil _ _,Nat.zero_le _,fun _ h=>by cases h⟩
theorem aI.below (h:aI w base v ps) (hb:Below w.heap.size w w'):aI w' base v ps:=⟨h.own.below hb,h.few,fun x hx=>⟨(h.op x hx).1.below hb,(h.op x hx).2⟩⟩
theorem aI.low {b:Nat} (h:aI w base v ps) (hb:b≤base):aI w b v ps:=⟨h.own.low hb,h.few,fun x hx=>⟨(h.op x hx).1.low hb,(h.op x hx).2⟩⟩
theorem aI.far (h:aI w base v ps) {row:Option Nat} (hg:w.grownBy w' row) (hne:∀ k,row=some k→v.ownBlock≠some k∧∀ x∈ps,x.sl.ownBlock≠some k):aI w' base v ps:=
 ⟨h.own.far hg (fun k e r=>(hne k r).1 e),h.few,fun x hx=>⟨(h.op x hx).1.far hg (fun k e r=>(hne k r).2 x hx e),(h.op x hx).2⟩⟩
theorem aI.old (h:aI w base v ps) {g:Nat} (hg:g < base):v.ownBlock≠some g∧∀ x∈ps,x.sl.ownBlock≠some g:=
 ⟨fun e=>by have:=h.own.ge g e;omega,fun x hx e=>by have:=(h.op x hx).1.ge g e;omega⟩
theorem aI.only (h:aI w base v ps) {g:Nat} (hg:w.grownBy w' (some g)) (hl:g < base):aI w' base v ps:=
 h.far hg (fun k e=>by injection e with e;subst e;exact h.old hl)
theorem aI.alloc (h:aI w base v ps) (o:Obj):aI (w.alloc o) base v ps:=h.below ((Below.refl _ _).alloc (Nat.le_refl _) o)
theorem aI.blk {g:Nat} {t:TypeId} {cs:Array Value} (h:aI w base v ps) (hg:Blk w g t cs) (ht:(EPc.e:TypeId)≠t) (hd:(EDs.e:TypeId)≠t):v.ownBlock≠some g∧∀ x∈ps,x.sl.ownBlock≠some g:=
 ⟨ay h.own hg ht,fun x hx=>ay (h.op x hx).1 hg hd⟩
theorem aI.apps {ys:List Pm} (h:aI w base v ps) (hy:∀ x∈ys,ax EDs w base x.sl x.ds∧x.Ok) (ho:ax EPc w' base v' (ps ++ ys)) (hg:w.grownBy w' v.ownBlock) (hn:(ps ++ ys).length≤16):aI w' base v' (ps ++ ys):=by
 have k:∀ {x:Pm},ax EDs w base x.sl x.ds→ax EDs w' base x.sl x.ds:=fun {x} hx=>hx.far hg (fun k e r=>aB hx h.own (show (320:Nat)≠47 by decide) k e r);refine ⟨ho,hn,fun x hx=>?_⟩;rcases List.mem_append.1 hx with hx | hx
 · exact ⟨k (h.op x hx).1,(h.op x hx).2⟩
 · exact ⟨k (hy x hx).1,(hy x hx).2⟩
end
theorem aK (a b:Int) (v:Value):(Tryz.prog.info? 34).map (·.size)=some (tbC a b v).size:=by show _=some 3;kernel_rfl
theorem aO (a b:Int) (A:Option Addr) (n c:Nat):(tbC a b (.slice A n c)).all (·.oneCell')=true:=by simp [Value.oneCell']
theorem uk {fn:Func} {i:Nat} (h:fn.results=#[.cell i 34]) (tmps:Array Value) (w:World) (g:Nat) (a b:Int) (v:Value) (hp:tmps.getD i undef= .pointer (some ⟨g,0,none⟩)) (hg:Blk w g 34 (tbC a b v)):
  (results fn tmps).run Tryz.prog w= .ok (.agg (tbC a b v)) w:=
 results_cell_row h tmps w g _ (tbC a b v) (0,0) _ hp hg Tryz.underlying34 rfl (aK a b v)
theorem aS {fn:Func} {i j:Nat} (h:fn.results=#[.cell i 34, .tmp j]) (tmps:Array Value) (w:World) (g:Nat) (a b:Int) (v:Value) (hp:tmps.getD i undef= .pointer (some ⟨g,0,none⟩)) (hg:Blk w g 34 (tbC a b v)):
  (results fn tmps).run Tryz.prog w= .ok (.tuple #[.agg (tbC a b v),tmps.getD j undef]) w:=by
 have hp' :tmps[i]?.getD undef= .pointer (some ⟨g,0,none⟩):=by simpa using hp
 simp [results,h,hp',asAddr,run_loadVar_row w g 34 34 (tbC a b v) (0,0) _ hg Tryz.underlying34 rfl (aK a b v)]
def TcP (base m:Nat) (a b:Int) (w:World) (e:Ending) (w' :World):Prop:=∃ (A:Option Addr) (n c:Nat) (ps:List Pm),e= .returned (.agg (tbC a b (.slice A n c)))∧aI w' base (.slice A n c) ps∧Below w.heap.size w w' ∧ps.length≤m
def vw (d i:Int):Pm:=⟨⟨1,0,0,0,0,0,4294967295,4294967295,d,i,⟨#[105,110,105,116]⟩,⟨#[47,105,110,105,116]⟩,true⟩, [],none,0⟩
def NwP (d i:Int) (w:World) (e:Ending) (w' :World):Prop:=∃ (A:Option Addr) (c:Nat),e= .returned (.agg (tbC 2 1 (.slice A 1 c)))∧ax EPc w' w.heap.size (.slice A 1 c) [vw d i]∧Below w.heap.size w w'
theorem JB (d i:Int) (w:World):Calls Tryz.prog 80 #[flV d i] w (NwP d i w):=by
 have hb0:=aT w #[.int .i64 d, .int .i64 i] (tbC 0 0 (.slice none 0 0)) 44 34;have h2:=Blk.new (w.alloc (.cells #[.int .i64 d, .int .i64 i] 44)) (tbC 0 0 (.slice none 0 0)) 34;simp only [World.size_alloc] at h2;have B0:=Hd hb0;have U0:=Hd ((Blk.new w #[.int .i64 d, .int .i64 i] 44).alloc (.cells (tbC 0 0 (.slice none 0 0)) 34));have R0:=Hd h2;have HW:=Hd (show ((w.alloc (.cells #[.int .i64 d, .int .i64 i] 44)).alloc (.cells (tbC 0 0 (.slice none 0 0)) 34)).heap.size=w.heap.size+1+1 by simp);clear hb0 h2;go_in;go_upto_region 1 with fail;generalize (w.alloc (.cells #[.int .i64 d, .int .i64 i] 44)).alloc (.cells (tbC 0 0 (.slice none 0 0)) 34)=w0 at *;have u0:=U0.o.cell 0;have u1:=U0.o.cell 1;have R1:=Hd (R0.o.alloc (.cells #[.int .i64 1, .int .i64 0, .int .i64 0, .int .i64 0, .int .i64 0, .int .i64 0, .int .i64 4294967295, .int .i64 4294967295, .int .i64 d, .int .i64 i, .string ⟨#[105,110,105,116]⟩, .string ⟨#[47,105,110,105,116]⟩, .slice none 0 0, .bool true] 47));have B1:=Hd (B0.o.alloc B0.o.size (.cells #[.int .i64 1, .int .i64 0, .int .i64 0, .int .i64 0, .int .i64 0, .int .i64 0, .int .i64 4294967295, .int .i64 4294967295, .int .i64 d, .int .i64 i, .string ⟨#[105,110,105,116]⟩, .string ⟨#[47,105,110,105,116]⟩, .slice none 0 0, .bool true] 47));have O1:=Hd (sV EPc w0 w0.heap.size #[.int .i64 1, .int .i64 0, .int .i64 0, .int .i64 0, .int .i64 0, .int .i64 0, .int .i64 4294967295, .int .i64 4294967295, .int .i64 d, .int .i64 i, .string ⟨#[105,110,105,116]⟩, .string ⟨#[47,105,110,105,116]⟩, .slice none 0 0, .bool true] (vw d i) rfl (Nat.le_refl _));go_wp2_with ((with_reducible refine ae ?_ 34 (.tmp 2) (.tmp 6) ?_ R1.o (tbC 2 1 (.slice (some ⟨w0.heap.size,0,none⟩) 1 1)) ?_ ?_ ?_ ?_ ?_ ?_);(iterate 4 rfl);(exact aK _ _ _);rfl;(exact aO _ _ _ _ _));refine bodyPost_ret (uk (fn:=Tryz.f80) rfl _ _ (w.heap.size+1) 2 1 (.slice (some ⟨w0.heap.size,0,none⟩) 1 1) rfl (Blk.row R1.o _)) rfl ?_;have gr:=aA (w0.alloc (.cells #[.int .i64 1, .int .i64 0, .int .i64 0, .int .i64 0, .int .i64 0, .int .i64 0, .int .i64 4294967295, .int .i64 4294967295, .int .i64 d, .int .i64 i, .string ⟨#[105,110,105,116]⟩, .string ⟨#[47,105,110,105,116]⟩, .slice none 0 0, .bool true] 47)) (w.heap.size+1) (tbC 2 1 (.slice (some ⟨w0.heap.size,0,none⟩) 1 1));exact ⟨_,1,rfl,(O1.o.far gr (fun q e r=>by injection r with r;have:=O1.o.ge q e;have:=HW.o;omega)).low (by have:=HW.o;omega),ai B1.o (by omega) _⟩
end Go.Proofs.YtollifnnpihfdaaGreatDoor
