import Derived.Test.YtnpaoepkpdileaaGreatDoorF06
set_option maxRecDepth 100000
set_option maxHeartbeats 64000000
set_option linter.all false
namespace Go.Proofs.YtnpaoepkpdileaaGreatDoor
open Go.RowKit
theorem jv (dev ino:Int) (nm:ByteArray) (hm:nm.size≤maxLen) (ds:List Dm) (A:Option Addr) (n c:Nat) (hn:n=ds.length) (w:World) (h:dO w w.heap.size A ds):
  Calls Tryz.prog 118 #[fsV A n c,flV dev ino, .string nm] w fun e w' =>e= .returned (.int .i64 (aX (ds.map Dm.dv) dev ino nm))∧Below w.heap.size w w' :=by
 have B0:=Hd (jk w #[.slice A n c] #[.int .i64 dev, .int .i64 ino] 39 26);have HN:=Hd (bL dev ino ds A n c hn _ (h.below B0.o));have HD:=Hd (show aX (ds.map Dm.dv) dev ino nm=match aM (ds.map Dm.dv) dev ino with | none=>2 | some n=>if n.kind == 2 then (if eB nm=true then 0 else 22) else 20 from rfl);have HP:=Hd (sM nm hm);clear h hn hm;go_in;go_wp2_with fail;refine HN.o.mono ?_;intro e w1 hp;cases hq:aM (ds.map Dm.dv) dev ino with
 | none=>
  rw [hq] at hp;obtain ⟨rfl,hb⟩:=hp;have B1:=Hd (B0.o.trans (hb.mono B0.o.size));have HR:=Hd (HD.o.trans (by rw [hq]));clear hb hq HN HD;go_wp2_with fail;go_ret;exact ⟨by rw [HR.o];rfl,B1.o.alloc B1.o.size _⟩
 | some nd=>
  rw [hq] at hp;obtain ⟨A2,c2,rfl,ho,hb,hsz⟩:=hp;have B1:=Hd (B0.o.trans (hb.mono B0.o.size));have HR:=Hd (HD.o.trans (by rw [hq]));clear hb hq HN HD ho hsz;cases hk:(nd.kind == 2) with
  | false=>
   have hk' :(nd.kind != 2)=true:=(by rw [bne,hk];rfl);have HR:=Hd (HR.o.trans (by simp only [hk];rfl:_=(20:Int)));go_wp2_with fail;go_ret;exact ⟨by rw [HR.o];rfl,B1.o.alloc B1.o.size _⟩
  | true=>
   have hk' :(nd.kind != 2)=false:=(by rw [bne,hk];rfl);have HR:=Hd (HR.o.trans (by simp only [hk];rfl:_=(if eB nm=true then (0:Int) else 22)));go_wp2_with fail;refine (HP.o _).mono ?_;rintro e w2 ⟨rfl,rfl⟩;cases hc:eB nm
   · have HR:=Hd (HR.o.trans (by rw [hc];rfl:_=(22:Int)));go_wp2_with fail;go_ret;exact ⟨by rw [HR.o];rfl,B1.o.alloc B1.o.size _⟩
   · have HR:=Hd (HR.o.trans (by rw [hc];rfl:_=(0:Int)));go_wp2_with fail;go_ret;exact ⟨by rw [HR.o];rfl,B1.o.alloc B1.o.size _⟩
theorem eH (d i:Int):(Tryz.prog.info? 26).map (·.size)=some (#[(.int .i64 d:Value), .int .i64 i]:Array Value).size:=by show _=some 2;kernel_rfl
theorem cu (d i:Int):(#[(.int .i64 d:Value), .int .i64 i]:Array Value).all (·.oneCell')=true:=by simp [Value.oneCell']
theorem jw {fn:Func} {i j:Nat} (h:fn.results=#[.cell i 26, .tmp j]) (tmps:Array Value) (w:World) (g:Nat) (d k:Int) (hp:tmps.getD i undef= .pointer (some ⟨g,0,none⟩)) (hg:Blk w g 26 #[.int .i64 d, .int .i64 k]):
  (results fn tmps).run Tryz.prog w= .ok (.tuple #[flV d k,tmps.getD j undef]) w:=by
 have hp' :tmps[i]?.getD undef= .pointer (some ⟨g,0,none⟩):=by simpa using hp
 simp [results,h,hp',asAddr,run_loadVar_row w g 26 26 #[.int .i64 d, .int .i64 k] (0,0) _ hg Tryz.underlying26 rfl (eH d k)]
theorem aV {w:World} {p q:Addr} {v:Value} (h:q.block≠p.block):(w.setCell p v).cell? q=w.cell? q:=World.cell?_of_block (heap_setCell_other w p q.block v h)
def wN (r:Int×(Int×Int)) (w:World) (e:Ending) (w' :World):Prop:=e= .returned (.tuple #[flV r.2.1 r.2.2, .int .i64 r.1])∧Below w.heap.size w w'
theorem fM (dev ino:Int) (nm:ByteArray) (ds:List Dm) (A:Option Addr) (n c:Nat) (hn:n=ds.length) (w:World) (h:dO w w.heap.size A ds):
  Calls Tryz.prog 80 #[fsV A n c,flV dev ino, .string nm] w (wN (dn (ds.map Dm.dv) dev ino nm) w):=by
 have hs1:(w.alloc (.cells #[.slice A n c] 39)).heap.size=w.heap.size+1:=by simp
 have hs2:((w.alloc (.cells #[.slice A n c] 39)).alloc (.cells #[.int .i64 dev, .int .i64 ino] 26)).heap.size=w.heap.size+1+1:=by simp
 have B0:=Hd ((jk w #[.slice A n c] #[.int .i64 dev, .int .i64 ino] 39 26).alloc (by rw [hs2];omega) (.cells #[.int .i64 0, .int .i64 0] 26));have R0:=Hd (show Blk (((w.alloc (.cells #[.slice A n c] 39)).alloc (.cells #[.int .i64 dev, .int .i64 ino] 26)).alloc (.cells #[.int .i64 0, .int .i64 0] 26)) (w.heap.size+1+1) 26 #[.int .i64 0, .int .i64 0] by
  have h:=Blk.new ((w.alloc (.cells #[.slice A n c] 39)).alloc (.cells #[.int .i64 dev, .int .i64 ino] 26)) #[.int .i64 0, .int .i64 0] 26;rw [hs2] at h;exact h)
 have U0:=Hd (show Blk (((w.alloc (.cells #[.slice A n c] 39)).alloc (.cells #[.int .i64 dev, .int .i64 ino] 26)).alloc (.cells #[.int .i64 0, .int .i64 0] 26)) (w.heap.size+1) 26 #[.int .i64 dev, .int .i64 ino] by
  have h:=(Blk.new (w.alloc (.cells #[.slice A n c] 39)) #[.int .i64 dev, .int .i64 ino] 26).alloc (.cells #[.int .i64 0, .int .i64 0] 26);rw [hs1] at h;exact h)
 have HN:=Hd (bL dev ino ds A n c hn _ (h.below B0.o));have HD:=Hd (show dn (ds.map Dm.dv) dev ino nm=match aM (ds.map Dm.dv) dev ino with | none=>(2,0,0) | some n=>if n.kind == 2 then (match nK n.es nm with | some x=>(0,dev,x.ino) | none=>(2,0,0)) else (20,0,0) from rfl);clear h hn hs1 hs2;go_in;go_wp2_with fail;generalize (((w.alloc (.cells #[.slice A n c] 39)).alloc (.cells #[.int .i64 dev, .int .i64 ino] 26)).alloc (.cells #[.int .i64 0, .int .i64 0] 26))=w0 at *;refine HN.o.mono ?_;intro e w1 hp;cases hq:aM (ds.map Dm.dv) dev ino with
 | none=>
  rw [hq] at hp;obtain ⟨rfl,hb⟩:=hp;have B1:=Hd ((B0.o.trans (hb.mono B0.o.size)).alloc (B0.o.trans (hb.mono B0.o.size)).size (.cells ndZ 124));have R1:=Hd ((R0.o.below hb).alloc (.cells ndZ 124));have HR:=Hd (HD.o.trans (by rw [hq]));clear hb hq HN HD R0 U0 B0;go_wp2_with ((with_reducible refine ae ?_ 26 (.tmp 6) (.tmp 19) ?_ R1.o #[.int .i64 0, .int .i64 0] ?_ ?_ ?_ ?_ ?_ ?_);(iterate 4 rfl);(exact eH _ _);rfl;(exact cu _ _));refine bodyPost_ret (jw (fn:=Tryz.f80) rfl _ _ (w.heap.size+1+1) 0 0 rfl (Blk.row R1.o _)) rfl ?_;rw [HR.o];exact ⟨rfl,ai B1.o (by omega) _⟩
 | some nd=>
  rw [hq] at hp;obtain ⟨A2,c2,rfl,ho,hb,hsz⟩:=hp;have B1:=Hd ((B0.o.trans (hb.mono B0.o.size)).alloc (B0.o.trans (hb.mono B0.o.size)).size (.cells (ndC nd (.slice A2 nd.es.length c2)) 124));have R1:=Hd ((R0.o.below hb).alloc (.cells (ndC nd (.slice A2 nd.es.length c2)) 124));have U1:=Hd ((U0.o.below hb).alloc (.cells (ndC nd (.slice A2 nd.es.length c2)) 124));have X1:=Hd (Blk.new w1 (ndC nd (.slice A2 nd.es.length c2)) 124);have HLT:=Hd (show w.heap.size+1+1 < w1.heap.size from (R0.o.below hb).lt);obtain ⟨A3,c3,e3,hat⟩:=ho.at;injection e3 with e3 e4 e5;subst e3;have HGE:=Hd (fun r (e:A2.map (·.block)=some r)=>ho.ge r (by cases A2 with | none=>cases e | some a=>exact e));have HW0:=Hd R0.o.lt;have HAT:=Hd (hat.keep ((Below.refl w1.heap.size w1).alloc (Nat.le_refl _) (.cells (ndC nd (.slice A2 nd.es.length c2)) 124)) (Nat.le_refl _));have HR:=Hd (HD.o.trans (by rw [hq]));have HSZ:=Hd hsz.1;clear hb hq HN HD ho R0 U0 B0 hat e4 e5 hsz;cases hk:(nd.kind == 2) with
  | false=>
   have hk' :(nd.kind != 2)=true:=(by rw [bne,hk];rfl);have HR:=Hd (HR.o.trans (by simp only [hk];rfl:_=((20,0,0):Int×(Int×Int))));go_wp2_with ((with_reducible refine ae ?_ 26 (.tmp 6) (.tmp 23) ?_ R1.o #[.int .i64 0, .int .i64 0] ?_ ?_ ?_ ?_ ?_ ?_);(iterate 4 rfl);(exact eH _ _);rfl;(exact cu _ _));refine bodyPost_ret (jw (fn:=Tryz.f80) rfl _ _ (w.heap.size+1+1) 0 0 rfl (Blk.row R1.o _)) rfl ?_;rw [HR.o];exact ⟨rfl,ai B1.o (by omega) _⟩
  | true=>
   have hk' :(nd.kind != 2)=false:=(by rw [bne,hk];rfl);have HR:=Hd (HR.o.trans (by simp only [hk];rfl:_=match nK nd.es nm with | some x=>((0,dev,x.ino):Int×(Int×Int)) | none=>(2,0,0)));go_wp2_with fail;generalize w1.alloc (.cells (ndC nd (.slice A2 nd.es.length c2)) 124)=w2 at *;go_loopw [10] (fun i wr=>∃ k:Nat,k≤nd.es.length∧i= .int .i64 k∧wr=w2∧Hid (∀ q (hq:q < k) (hl:q < nd.es.length),(nd.es[q].nm.toList == nm.toList)=false)) (fun i _=>nd.es.length - (intOf i).toNat);case atStart=>exact ⟨0,Nat.zero_le _,rfl,rfl,Hd (fun q hq=>by omega)⟩
   case round=>
    obtain ⟨k,hkl,rfl,rfl,hno⟩:=hrel;have x7:=X1.o.cell 7;by_cases hlt:k < nd.es.length;case pos=>
     have k1:(k:Int) < (nd.es.length:Int):=(by omega);have k2:(0:Int)≤(k:Int):=(by omega);have k3:=HSZ.o;have w1' :wrap64 ((k:Int)+1)=(k:Int)+1:=IntWalk.wrap64_in _ (by omega);have w2' :IntKind.i64.wrap ((k:Int)+1)=(k:Int)+1:=IntWalk.i64_in _ (by omega);obtain ⟨ad,rfl,hab,hcx⟩:=HAT.o k hlt;obtain ⟨s0,s1⟩:=iU (a:=ad.add (k * 2)) hcx;have HX:=Hd (fun h:(nd.es[k].nm.toList == nm.toList)=true=>sQ hlt (fun q hq=>hno.o q hq (by omega)) h);have HY:=Hd (fun h:(nd.es[k].nm.toList == nm.toList)=false=>show ∀ q (hq:q < k+1) (hl:q < nd.es.length),(nd.es[q].nm.toList == nm.toList)=false from fun q hq hl=>by
      by_cases he:q=k
      · subst he;exact h
      · exact hno.o q (by omega) hl)
     have hge:w0.heap.size≤ad.block:=HGE.o ad.block rfl;clear hcx hno;generalize nd.es[k]=x at *;cases hb:(x.nm.toList == nm.toList) with
     | false=>
      have HZ:=Hd (HY.o hb);go_wp2_with fail;go_roundw;case rel=>exact ⟨k+1,by omega,by go_num,by first | rfl | trivial,HZ⟩
      case measure=>simp [intOf];omega
     | true=>
      have HZ:=Hd (HX.o hb);have HR:=Hd (HR.o.trans (by rw [HZ.o]));have u0:=U1.o.cell 0;go_upto_region 10 with fail;have hS0:wr.drew.cell? ⟨w.heap.size+1,0,none⟩=some (.int .i64 dev)∧wr.drew.cell? ⟨w1.heap.size,7,none⟩=some (.slice (some ad) nd.es.length c2)∧wr.drew.cell? ⟨(ad.add (k * 2)).block,(ad.add (k * 2)).off+1,none⟩=some (.int .i64 x.ino):=⟨u0,x7,s1⟩;refine wp_region_held_drew (S:=(fun W=>W.cell? ⟨w.heap.size+1,0,none⟩=some (.int .i64 dev)∧W.cell? ⟨w1.heap.size,7,none⟩=some (.slice (some ad) nd.es.length c2)∧W.cell? ⟨(ad.add (k * 2)).block,(ad.add (k * 2)).off+1,none⟩=some (.int .i64 x.ino))) (by kernel_rfl) hS0 (fun hHeld=>?_);refine tk hHeld 0 ?_ ?_ (tk hHeld 1 ?_ ?_ (tk hHeld 2 ?_ ?_ (tk hHeld 3 ?_ ?_ (tk hHeld 4 ?_ ?_ (tk hHeld 5 ?_ ?_ (tk hHeld 6 ?_ ?_ (tk hHeld 7 ?_ ?_ (tk hHeld 8 ?_ ?_ ?_))))))));iterate 9
        rotate_left
        · intro W hSw;obtain ⟨y0,y1,y2⟩:=hSw;go_simp;try (with_reducible rfl)
      have r0:=R1.o.cell 0;have r1:=R1.o.cell 1;have f0:=R1.o.free 0;have f1:=R1.o.free 1;have hS1:∀ u v:Value,((wr.setCell ⟨w.heap.size+1+1,0,none⟩ u).setCell ⟨w.heap.size+1+1,1,none⟩ v).drew.cell? ⟨w.heap.size+1,0,none⟩=some (.int .i64 dev)∧((wr.setCell ⟨w.heap.size+1+1,0,none⟩ u).setCell ⟨w.heap.size+1+1,1,none⟩ v).drew.cell? ⟨w1.heap.size,7,none⟩=some (.slice (some ad) nd.es.length c2)∧((wr.setCell ⟨w.heap.size+1+1,0,none⟩ u).setCell ⟨w.heap.size+1+1,1,none⟩ v).drew.cell? ⟨(ad.add (k * 2)).block,(ad.add (k * 2)).off+1,none⟩=some (.int .i64 x.ino):=fun u v=>by
        have h1:=HLT.o;have h2:=HW0.o;have h3:(ad.add (k * 2)).block=ad.block:=az ad _;refine ⟨?_,?_,?_⟩
        · show ((wr.setCell ⟨w.heap.size+1+1,0,none⟩ u).setCell ⟨w.heap.size+1+1,1,none⟩ v).cell? _=_;rw [aV (by show w.heap.size+1≠w.heap.size+1+1;omega),aV (by show w.heap.size+1≠w.heap.size+1+1;omega)];exact u0
        · show ((wr.setCell ⟨w.heap.size+1+1,0,none⟩ u).setCell ⟨w.heap.size+1+1,1,none⟩ v).cell? _=_;rw [aV (by show w1.heap.size≠w.heap.size+1+1;omega),aV (by show w1.heap.size≠w.heap.size+1+1;omega)];exact x7
        · show ((wr.setCell ⟨w.heap.size+1+1,0,none⟩ u).setCell ⟨w.heap.size+1+1,1,none⟩ v).cell? _=_;rw [aV (by show (ad.add (k * 2)).block≠w.heap.size+1+1;omega),aV (by show (ad.add (k * 2)).block≠w.heap.size+1+1;omega)];exact s1
      refine rdy1 9 (fun K hK=>?_);go_simp;refine hK.o _ _ (hS1 _ _) (fun hHeld=>?_);clear hK K;refine tk hHeld 10 ?_ ?_ ?_;rotate_left
      · intro W hSw;go_simp;try (with_reducible rfl)
      refine wpAnyH_done (by kernel_rfl) ?_ _;go_wp2_with fail;refine bodyPost_ret (jw (fn:=Tryz.f80) rfl _ _ (w.heap.size+1+1) dev x.ino rfl (show Blk ((wr.setCell ⟨w.heap.size+1+1,0,none⟩ (.int .i64 dev)).setCell ⟨w.heap.size+1+1,1,none⟩ (.int .i64 x.ino)).drew (w.heap.size+1+1) 26 #[.int .i64 dev, .int .i64 x.ino] from (R1.o.put 0 (.int .i64 dev)).put 1 (.int .i64 x.ino))) rfl ?_;rw [HR.o];exact ⟨rfl,((B1.o.setCell (p:=⟨w.heap.size+1+1,0,none⟩) (by show w.heap.size≤w.heap.size+1+1;omega) _).setCell (p:=⟨w.heap.size+1+1,1,none⟩) (by show w.heap.size≤w.heap.size+1+1;omega) _).drew⟩
    case neg=>
     have k1:¬ (k:Int) < (nd.es.length:Int):=(by omega);have HR:=Hd (HR.o.trans (by rw [sP (fun q hq=>hno.o q (by omega) hq)]));go_wp2_with ((with_reducible refine ae ?_ 26 (.tmp 6) (.tmp 48) ?_ R1.o #[.int .i64 0, .int .i64 0] ?_ ?_ ?_ ?_ ?_ ?_);(iterate 4 rfl);(exact eH _ _);rfl;(exact cu _ _));refine bodyPost_ret (jw (fn:=Tryz.f80) rfl _ _ (w.heap.size+1+1) 0 0 rfl (Blk.row R1.o _)) rfl ?_;rw [HR.o];exact ⟨rfl,ai B1.o (by omega) _⟩
end Go.Proofs.YtnpaoepkpdileaaGreatDoor
