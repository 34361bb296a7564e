import Derived.Test.YtnpaoepkpdileaaGreatDoorF26
set_option maxRecDepth 100000
set_option maxHeartbeats 64000000
set_option linter.all false
namespace Go.Proofs.YtnpaoepkpdileaaGreatDoor
open Go.RowKit
abbrev tbC (a b:Int) (v:Value):Array Value:=#[.int .i64 a, .int .i64 b,v]
theorem uC {fn:Func} {i j:Nat} (h:fn.results=#[.cell i 29, .tmp j]) (tmps:Array Value) (w:World) (g:Nat) (p:Pc) (v:Value) (hp:tmps.getD i undef= .pointer (some ⟨g,0,none⟩)) (hg:Blk w g 29 (psC p v)):
  (results fn tmps).run Tryz.prog w= .ok (.tuple #[.agg (psC p v),tmps.getD j undef]) w:=by
 have hp' :tmps[i]?.getD undef= .pointer (some ⟨g,0,none⟩):=by simpa using hp
 simp [results,h,hp',asAddr,run_loadVar_row w g 29 29 (psC p v) (0,0) _ hg Tryz.underlying29 rfl (gU p v)]
theorem eO {w:World} {a:Addr} {x:Pm} (h:∀ j,j < 14→w.cell? (a.add j)=(EPc.C x)[j]?):
  (w.cell? a=some (.int .i64 x.p.pid)∧w.cell? ⟨a.block,a.off+1,none⟩=some (.int .i64 x.p.pp)∧w.cell? ⟨a.block,a.off+2,none⟩=some (.int .i64 x.p.ui)∧w.cell? ⟨a.block,a.off+3,none⟩=some (.int .i64 x.p.eu)∧w.cell? ⟨a.block,a.off+4,none⟩=some (.int .i64 x.p.gi)∧w.cell? ⟨a.block,a.off+5,none⟩=some (.int .i64 x.p.eg)∧w.cell? ⟨a.block,a.off+6,none⟩=some (.int .i64 x.p.au))∧w.cell? ⟨a.block,a.off+7,none⟩=some (.int .i64 x.p.se)∧w.cell? ⟨a.block,a.off+8,none⟩=some (.int .i64 x.p.cd)∧w.cell? ⟨a.block,a.off+9,none⟩=some (.int .i64 x.p.ci)∧w.cell? ⟨a.block,a.off+10,none⟩=some (.string x.p.co)∧w.cell? ⟨a.block,a.off+11,none⟩=some (.string x.p.ex)∧w.cell? ⟨a.block,a.off+12,none⟩=some (.slice x.A x.ds.length x.c)∧w.cell? ⟨a.block,a.off+13,none⟩=some (.bool x.p.dl):=
 ⟨⟨h 0 (by omega),h 1 (by omega),h 2 (by omega),h 3 (by omega),h 4 (by omega),h 5 (by omega),h 6 (by omega)⟩,h 7 (by omega),h 8 (by omega),h 9 (by omega),h 10 (by omega),h 11 (by omega),h 12 (by omega),h 13 (by omega)⟩
def Jc (ps:List Pm) (w:World) (e:Ending) (w' :World):Prop:=Below w.heap.size w w' ∧(e= .returned (.tuple #[.agg (psC zPc (.slice none 0 0)), .bool false])∨∃ x∈ps,∃ (A:Option Addr) (c:Nat),e= .returned (.tuple #[.agg (psC x.p (.slice A x.ds.length c)), .bool true])∧ay EDs w' w.heap.size (.slice A x.ds.length c) x.ds)
theorem jP (a b pid:Int) (ps:List Pm) (A:Option Addr) (n c:Nat) (hn:n=ps.length) (w:World) (h:jI w w.heap.size A ps):
  Calls Tryz.prog 29 #[.agg (tbC a b (.slice A n c)), .int .i64 pid] w (Jc ps w):=by
 have HN:=Hd hn;have hb0:=aY w (tbC a b (.slice A n c)) (psC zPc (.slice none 0 0)) 45 29;have h2:=Blk.new (w.alloc (.cells (tbC a b (.slice A n c)) 45)) (psC zPc (.slice none 0 0)) 29;simp only [World.size_alloc] at h2;have B0:=Hd hb0;have V0:=Hd ((Blk.new w (tbC a b (.slice A n c)) 45).alloc (.cells (psC zPc (.slice none 0 0)) 29));have R0:=Hd h2;have D0:=Hd (h.below hb0);clear h hn hb0 h2;go_in;go_upto_region 1 with fail;have hz:psC zPc (.slice none 0 0)=#[.int .i64 0, .int .i64 0, .int .i64 0, .int .i64 0, .int .i64 0, .int .i64 0, .int .i64 0, .int .i64 0, .int .i64 0, .int .i64 0, .string ⟨#[]⟩, .string ⟨#[]⟩, .slice none 0 0, .bool false]:=rfl;rw [hz] at B0 V0 R0 D0;clear hz;generalize (w.alloc (.cells (tbC a b (.slice A n c)) 45)).alloc (.cells #[.int .i64 0, .int .i64 0, .int .i64 0, .int .i64 0, .int .i64 0, .int .i64 0, .int .i64 0, .int .i64 0, .int .i64 0, .int .i64 0, .string ⟨#[]⟩, .string ⟨#[]⟩, .slice none 0 0, .bool false] 29)=w0 at *;go_wp2_with fail;go_loopw [6] (fun i wr=>∃ k:Nat,k≤ps.length∧i= .int .i64 k∧wr=w0) (fun i _=>ps.length - (intOf i).toNat);case atStart=>exact ⟨0,Nat.zero_le _,rfl,rfl⟩
 case round=>
  obtain ⟨k,hk,rfl,rfl⟩:=hrel;have v2:=V0.o.cell 2;have hn:=HN.o;have WK:=Hd (dB hk (by have:=D0.o.few;omega));by_cases hlt:k < ps.length;case neg=>
   have k1:¬ (k:Int) < (n:Int):=(by omega);clear hn;go_wp2_with ((with_reducible refine ae ?_ 29 (.tmp 4) (.tmp 28) ?_ R0.o (psC zPc (.slice none 0 0)) ?_ ?_ ?_ ?_ ?_ ?_);(iterate 4 rfl);(exact gU _ _);rfl;(exact pX _ _ _ _));refine bodyPost_ret (uC (fn:=Tryz.f29) rfl _ _ (w.heap.size+1) zPc (.slice none 0 0) rfl (Blk.row R0.o _)) rfl ?_;exact ⟨ai B0.o (by omega) _, .inl rfl⟩
  case pos=>
   have k1:(k:Int) < (n:Int):=(by omega);have k2:(0:Int)≤(k:Int):=(by omega);obtain ⟨am,rfl,hab,hcx⟩:=D0.o.at_ k hlt;obtain ⟨⟨m0,m1,m2,m3,m4,m5,m6⟩,m7,m8,m9,m10,m11,m12,m13⟩:=eO (a:=am.add (k * 14)) hcx;have HM:=Hd (List.getElem_mem hlt);clear hcx hn;generalize ps[k]=x at *;cases hb:(x.p.pid == pid) with
   | true=>
    have HX:=Hd (D0.o.opens x HM.o);go_wp2_with fail;clear m0 m1 m2 m3 m4 m5 m6 m7 m8 m9 m10 m11 m12 m13;refine (qb x.p x.ds x.A x.ds.length x.c rfl HX.o.2 wr HX.o.1).mono ?_;rintro e w6 ⟨A6,c6,rfl,ho,hb6⟩;have R6:=Hd (R0.o.below hb6);have B6:=Hd (B0.o.trans (hb6.mono B0.o.size));have O6:=Hd ho;have Ep:w.heap.size+1 < wr.heap.size:=R0.o.lt;clear ho hb6;go_wp2_with ((with_reducible refine ae ?_ 29 (.tmp 4) (.tmp 27) ?_ R6.o (psC x.p (.slice A6 x.ds.length c6)) ?_ ?_ ?_ ?_ ?_ ?_);(iterate 4 rfl);(exact gU _ _);rfl;(exact pX _ _ _ _));refine bodyPost_ret (uC (fn:=Tryz.f29) rfl _ _ (w.heap.size+1) x.p (.slice A6 x.ds.length c6) rfl (Blk.row R6.o _)) rfl ?_;have gr:=aA w6 (w.heap.size+1) (psC x.p (.slice A6 x.ds.length c6));exact ⟨ai B6.o (by omega) _, .inr ⟨x,HM.o,A6,c6,rfl,(O6.o.far gr (fun q e r=>by injection r with r;have:=O6.o.ge q e;omega)).low (by omega)⟩⟩
   | false=>
    clear m1 m2 m3 m4 m5 m6 m7 m8 m9 m10 m11 m12 m13;obtain ⟨wk1,wk2⟩:=WK.o;go_wp2_with fail;clear wk1 wk2;go_roundw;case rel=>exact ⟨k+1,hlt,rfl,by first | rfl | trivial⟩
    case measure=>exact aZ hlt _ rfl
end Go.Proofs.YtnpaoepkpdileaaGreatDoor
