import Derived.Test.YtollifnnpihfdaaGreatDoorB14
import Derived.Test.YtollifnnpihfdaaGreatDoorB15
set_option maxRecDepth 100000
set_option maxHeartbeats 64000000
set_option linter.all false
namespace Go.Proofs.YtollifnnpihfdaaGreatDoor
open Go.RowKit
def tX (w:World) (gc:Nat) (z:Int) (a:Nat→Int) (vp va:Value):Prop:=Blk w gc 51 #[.int .i64 z, .int .i64 (a 0), .int .i64 (a 1), .int .i64 (a 2), .int .i64 (a 3),vp,va]∧∀ j,j < 4→0≤a j∧a j≤1000
def lM (a:Nat→Int) (k:Nat) (v:Int):Nat→Int:=fun j=>if j=k then v else a j
theorem tX.lM {w:World} {gc:Nat} {z:Int} {a:Nat→Int} {vp va:Value} (h:tX w gc z a vp va) (k:Nat) (hk:k < 4) (v:Int) (h0:0≤v) (h1:v≤1000):tX (w.setCell ⟨gc,1+k,none⟩ (.int .i64 v)) gc z (lM a k v) vp va:=by
 refine ⟨?_,fun j hj=>?_⟩
 · have:=h.1.put (1+k) (.int .i64 v)
   match k,hk with
   | 0,_=>exact this
   | 1,_=>exact this
   | 2,_=>exact this
   | 3,_=>exact this
 · unfold Go.Proofs.YtollifnnpihfdaaGreatDoor.lM;split
   · exact ⟨h0,h1⟩
   · exact h.2 j hj
theorem tX.only {w w' :World} {gc g:Nat} {z:Int} {a:Nat→Int} {vp va:Value} (h:tX w gc z a vp va) (hg:w.grownBy w' (some g)) (hne:gc≠g):tX w' gc z a vp va:=⟨h.1.grown hg (fun e=>hne (by injection e with e;exact e.symm)),h.2⟩
theorem tX.below {w w' :World} {gc:Nat} {z:Int} {a:Nat→Int} {vp va:Value} (h:tX w gc z a vp va) (hb:Below w.heap.size w w'):tX w' gc z a vp va:=⟨h.1.below hb,h.2⟩
theorem tX.alloc {w:World} {gc:Nat} {z:Int} {a:Nat→Int} {vp va:Value} (h:tX w gc z a vp va) (o:Obj):tX (w.alloc o) gc z a vp va:=⟨h.1.alloc o,h.2⟩
abbrev tY:Array Value:=#[.int .i64 0, .int .i64 0, .int .i64 0, .int .i64 0, .int .i64 0, .slice none 0 0, .slice none 0 0]
structure gV (w wr:World) (base g:Nat) (b:Int) (rc gc:Nat) (z:Int) (a:Nat→Int) (vp va:Value):Prop where
 only:w.grownBy wr (some g)
 src:aV wr base g b
 cb:tX wr gc z a vp va
 rb:Blk wr rc 51 tY
 h1:w.heap.size≤rc
 h2:rc < gc
 h3:g < w.heap.size
 h4:base≤w.heap.size
section
variable {w wr w' :World} {base g rc gc:Nat} {b b' :Int} {z:Int} {a:Nat→Int} {vp va:Value}
theorem gV.more (h:gV w wr base g b rc gc z a vp va) (hb:b≤b'):gV w wr base g b' rc gc z a vp va:=⟨h.only,h.src.more hb,h.cb,h.rb,h.h1,h.h2,h.h3,h.h4⟩
theorem gV.alloc (h:gV w wr base g b rc gc z a vp va) (o:Obj):gV w (wr.alloc o) base g b rc gc z a vp va:=⟨bF h.only o,h.src.alloc o,h.cb.alloc o,h.rb.alloc o,h.h1,h.h2,h.h3,h.h4⟩
theorem gV.step (h:gV w wr base g b rc gc z a vp va) (hs:aV w' base g b') (hg:wr.grownBy w' (some g)):gV w w' base g b' rc gc z a vp va:=
 ⟨h.only.trans hg,hs,h.cb.only hg (by have:=h.h1;have:=h.h2;have:=h.h3;omega),h.rb.grown hg (fun e=>by injection e with e;have:=h.h1;have:=h.h3;omega),h.h1,h.h2,h.h3,h.h4⟩
theorem gV.below (h:gV w wr base g b rc gc z a vp va) (hb:Below wr.heap.size wr w'):gV w w' base g b rc gc z a vp va:=
 ⟨bG h.only hb,h.src.below hb,h.cb.below hb,h.rb.below hb,h.h1,h.h2,h.h3,h.h4⟩
theorem gV.lM (h:gV w wr base g b rc gc z a vp va) (k:Nat) (hk:k < 4) (v:Int) (h0:0≤v) (h1:v≤1000):gV w (wr.setCell ⟨gc,1+k,none⟩ (.int .i64 v)) base g b rc gc z (lM a k v) vp va:=
 ⟨aF h.only (.inr (by show w.heap.size≤gc;have:=h.h1;have:=h.h2;omega)) _,h.src.setCell (by show base≤gc;have:=h.h1;have:=h.h2;have:=h.h4;omega) (by show gc≠g;have:=h.h1;have:=h.h2;have:=h.h3;omega) _,h.cb.lM k hk v h0 h1,h.rb.af _ (by show rc≠gc;have:=h.h2;omega),h.h1,h.h2,h.h3,h.h4⟩
theorem gV.drew (h:gV w wr base g b rc gc z a vp va):gV w wr.drew base g b rc gc z a vp va:=⟨⟨h.only.os,h.only.tape,h.only.output,h.only.size,h.only.block⟩,h.src.drew,h.cb,h.rb,h.h1,h.h2,h.h3,h.h4⟩
theorem gV.grown (h:gV w wr base g b rc gc z a vp va) {row:Option Nat} (hg:wr.grownBy w' row) (hr:∀ r,row=some r→gc < r):gV w w' base g b rc gc z a vp va:=
 ⟨⟨hg.os.trans h.only.os,hg.tape.trans h.only.tape,hg.output.trans h.only.output,Nat.le_trans h.only.size hg.size,fun i hi hne=>(hg.block i (Nat.lt_of_lt_of_le hi h.only.size) (fun e=>by have:=hr i e.symm;have:=h.h1;have:=h.h2;omega)).trans (h.only.block i hi hne)⟩,
  h.src.grown hg (fun r e=>by have:=hr r e;have:=h.h1;have:=h.h2;have:=h.h3;have:=h.h4;omega),⟨h.cb.1.grown hg (fun e=>by have:=hr gc e;omega),h.cb.2⟩,h.rb.grown hg (fun e=>by have:=hr rc e;have:=h.h2;omega),h.h1,h.h2,h.h3,h.h4⟩
theorem gV.Ow (h:gV w wr base g b rc gc z a vp va) (v:Value):gV w (wr.setCell ⟨gc,5,none⟩ v) base g b rc gc z a v va:=
 ⟨aF h.only (.inr (by show w.heap.size≤gc;have:=h.h1;have:=h.h2;omega)) _,h.src.setCell (by show base≤gc;have:=h.h1;have:=h.h2;have:=h.h4;omega) (by show gc≠g;have:=h.h1;have:=h.h2;have:=h.h3;omega) _,⟨h.cb.1.put 5 v,h.cb.2⟩,h.rb.af _ (by show rc≠gc;have:=h.h2;omega),h.h1,h.h2,h.h3,h.h4⟩
theorem gV.Ox (h:gV w wr base g b rc gc z a vp va) (v:Value):gV w (wr.setCell ⟨gc,6,none⟩ v) base g b rc gc z a vp v:=
 ⟨aF h.only (.inr (by show w.heap.size≤gc;have:=h.h1;have:=h.h2;omega)) _,h.src.setCell (by show base≤gc;have:=h.h1;have:=h.h2;have:=h.h4;omega) (by show gc≠g;have:=h.h1;have:=h.h2;have:=h.h3;omega) _,⟨h.cb.1.put 6 v,h.cb.2⟩,h.rb.af _ (by show rc≠gc;have:=h.h2;omega),h.h1,h.h2,h.h3,h.h4⟩
theorem gV.Oy (h:gV w wr base g b rc gc z a vp va) (z' :Int):gV w (wr.setCell ⟨gc,0,none⟩ (.int .i64 z')) base g b rc gc z' a vp va:=
 ⟨aF h.only (.inr (by show w.heap.size≤gc;have:=h.h1;have:=h.h2;omega)) _,h.src.setCell (by show base≤gc;have:=h.h1;have:=h.h2;have:=h.h4;omega) (by show gc≠g;have:=h.h1;have:=h.h2;have:=h.h3;omega) _,⟨h.cb.1.put 0 (.int .i64 z'),h.cb.2⟩,h.rb.af _ (by show rc≠gc;have:=h.h2;omega),h.h1,h.h2,h.h3,h.h4⟩
theorem mZ (w:World) (x:ByteArray) (t:TypeId):bD (w.alloc (.cells #[.string x] t)) (w.heap.size+1) (some ⟨w.heap.size,0,none⟩) [x]:=fun k hk=>by
 have hk:k=0:=by simp at hk;omega
 subst hk;exact ⟨_,rfl,by show w.heap.size < _;omega,by show World.cell? _ ⟨w.heap.size,0,none⟩=_;rw [(Blk.new w #[.string x] t).cell];rfl⟩
theorem bJ.only {w w' :World} {lo:Nat} {v:Value} {L:List ByteArray} (h:bJ w lo v L) {g:Nat} (hg:w.grownBy w' (some g)) (hlt:g < lo):bJ w' lo v L:=
 World.ownsRow.kept h hg (by
  cases hv:v.ownBlock with
  | none=>exact .inl rfl
  | some k=>right;intro e;injection e with e;have:=h.ge k hv;omega)
theorem bJ.setCell {w:World} {lo:Nat} {v:Value} {L:List ByteArray} (h:bJ w lo v L) {p:Addr} (hp:p.block < lo) (u:Value):bJ (w.setCell p u) lo v L:=ownsRow_setCell_below h hp u
end
def zT (w:World) (base g:Nat) (b:Int) (e:Ending) (w' :World):Prop:=∃ (z:Int) (a:Nat→Int) (vp va:Value) (ps gs:List ByteArray),e= .returned (.agg #[.int .i64 z, .int .i64 (a 0), .int .i64 (a 1), .int .i64 (a 2), .int .i64 (a 3),vp,va])∧(-1≤z∧z≤33)∧(∀ j,j < 4→0≤a j∧a j≤1000)∧ps.length≤2∧gs.length≤4∧(∀ s∈ps,s.size≤60)∧(∀ s∈gs,s.size≤4)∧bJ w' w.heap.size vp ps∧bJ w' w.heap.size va gs∧aV w' base g b∧w.grownBy w' (some g)
theorem xH:(Tryz.prog.info? 51).map (·.size)=some 7:=by kernel_rfl
theorem zU {f:FuncId} {fn:Func} (_hf:Tryz.prog.funcs[f]? =some fn) (h:fn.results=#[.cell 2 51]) (tmps:Array Value) (w:World) (g:Nat) (cs:Array Value) (hp:tmps.getD 2 undef= .pointer (some ⟨g,0,none⟩)) (hg:Blk w g 51 cs) (h7:cs.size=7):
  (results fn tmps).run Tryz.prog w= .ok (.agg cs) w:=
 results_cell_row h tmps w g _ cs (0,0) _ hp hg Tryz.underlying51 rfl (by rw [h7];exact xH)
theorem bJ.mono {w:World} {lo lo' :Nat} {v:Value} {L:List ByteArray} (h:bJ w lo v L) (hb:lo' ≤lo):bJ w lo' v L:=Joins.ownsRow_le h hb
theorem bJ.far {w w' :World} {lo:Nat} {v v2:Value} {L:List ByteArray} (h:bJ w lo v L) (hg:w.grownBy w' v2.ownBlock) (hne:∀ r,v.ownBlock=some r→v2.ownBlock≠some r):bJ w' lo v L:=
 World.ownsRow.kept h hg (by
  cases hv:v.ownBlock with
  | none=>exact .inl rfl
  | some k=>right;intro e;exact hne k hv e.symm)
theorem slice_form {w:World} {lo:Nat} {v:Value} {L:List ByteArray} (h:bJ w lo v L):∃ A n c,v= .slice A n c:=by
 obtain ⟨A,c,e,_⟩:=h.strs;exact ⟨A,_,c,e⟩
attribute [local irreducible] dE eO
theorem jy (w:World) (base g:Nat) (b:Int) (h:aV w base g b) (hb:b≤1000000000000):
  Calls Tryz.prog 41 #[.pointer (some ⟨g,0,none⟩)] w (zT w base g (b+200)):=by
 have H:=Hd h;have HB:=Hd hb;have ME:g < w.heap.size:=dC h;have hbase:base≤w.heap.size:=by have:=h.1;omega
 clear h hb;go_in;go_wp2_with fail;refine (gu _ base g (w.heap.size+1) b 26 0 21 _ 3 (0,0) ((H.o.alloc (.cells tY 51)).alloc _) (by have:=HB.o;omega) (by have:=heap_alloc_new (w.alloc (.cells tY 51)) (.cells #[.int .i64 0, .int .i64 1, .int .i64 2, .int .i64 3, .int .i64 4, .int .i64 5, .int .i64 6, .int .i64 6, .int .i64 6, .int .i64 7, .int .i64 8, .int .i64 9, .int .i64 10, .int .i64 11, .int .i64 11, .int .i64 12, .int .i64 13, .int .i64 13, .int .i64 14, .int .i64 15, .int .i64 16, .int .i64 17, .int .i64 18, .int .i64 19, .int .i64 20, .int .i64 21] 3);simpa using this) (by omega) rfl (by omega) (by omega) rfl).mono ?_;rintro e w1 ⟨z,rfl,hz0,hz1,hs1,hg1⟩;have hon:=(bF (bF (World.grownBy.refl w (some g)) (.cells tY 51)) (.cells #[.int .i64 0, .int .i64 1, .int .i64 2, .int .i64 3, .int .i64 4, .int .i64 5, .int .i64 6, .int .i64 6, .int .i64 6, .int .i64 7, .int .i64 8, .int .i64 9, .int .i64 10, .int .i64 11, .int .i64 11, .int .i64 12, .int .i64 13, .int .i64 13, .int .i64 14, .int .i64 15, .int .i64 16, .int .i64 17, .int .i64 18, .int .i64 19, .int .i64 20, .int .i64 21] 3)).trans hg1;have hrb:Blk w1 w.heap.size 51 tY:=((Blk.new w tY 51).alloc _).grown hg1 (fun e=>by injection e with e;omega);have hlt1:w.heap.size < w1.heap.size:=hrb.lt;have HST:gV w (w1.alloc (.cells #[.int .i64 z, .int .i64 0, .int .i64 0, .int .i64 0, .int .i64 0, .slice none 0 0, .slice none 0 0] 51)) base g (b+1) w.heap.size w1.heap.size z (fun _=>0) (.slice none 0 0) (.slice none 0 0):=
  ⟨bF hon _,hs1.alloc _,⟨Blk.new w1 _ _,fun j _=>by simp⟩,hrb.alloc _,Nat.le_refl _,hlt1,ME,hbase⟩
 clear hs1 hg1 hon hrb;go_wp2_with fail;have HSH:=Hd (GV z);have hsm:(dE z).nums≤2∧(dE z).lJ≤2∧(dE z).least≤1∧(dE z).most≤4∧(dE z).least≤(dE z).most:=by
  obtain ⟨n,rfl⟩:=Int.eq_ofNat_of_zero_le hz0;rw [kN];have H:∀ m:Fin 22,(eO m).nums≤2∧(eO m).lJ≤2∧(eO m).least≤1∧(eO m).most≤4∧(eO m).least≤(eO m).most:=by decide+kernel
  exact H ⟨n,by omega⟩
 generalize dE z=r at *;obtain ⟨nm,m,p,l,u⟩:=r;obtain ⟨s1,s2,s3,s4,s5⟩:=hsm;simp only at s1 s2 s3 s4 s5;refine (HSH.o _).mono ?_;rintro e w2 ⟨rfl,hb2⟩;have Hr:=HST.below hb2;clear HST hb2 HSH;go_wp2_with fail;generalize w1.heap.size=gc at *;generalize w.heap.size=rc at *;go_loopw [8] (fun i wr=>∃ (k:Nat) (a:Nat→Int),k≤m∧i= .int .i64 (k:Int)∧gV w wr base g (b+1+k) rc gc z a (.slice none 0 0) (.slice none 0 0)) (fun i _=>m - (intOf i).toNat);case atStart=>exact ⟨0,_,Nat.zero_le _,rfl,Hr.more (by omega)⟩
 case round=>
  obtain ⟨k,a,hk,rfl,hst⟩:=hrel;clear Hr;by_cases hkm:k < m
  · have hlt:g < wr.heap.size:=dC hst.src;go_wp2_with fail;refine (gu _ base g wr.heap.size (b+1+k) 8 0 493 _ 3 (0,0) (hst.src.alloc _) (by have:=HB.o;omega) (heap_alloc_new wr _) (by omega) rfl (by omega) (by omega) rfl).mono ?_;rintro e w3 ⟨x,rfl,hx0,hx1,hs3,hg3⟩;have EZ:=(hst.alloc (.cells #[.int .i64 0, .int .i64 1, .int .i64 2, .int .i64 3, .int .i64 5, .int .i64 7, .int .i64 420, .int .i64 493] 3)).step hs3 hg3;clear hs3 hg3 hst;have hcs:k=0∨k=1:=(by omega);rcases hcs with rfl | rfl
    · have q:=EZ.cb.1.cell 1;have f:=EZ.cb.1.free 1;go_wp2_with fail;go_roundw;case rel=>exact ⟨1,_,by omega,by go_num,(EZ.lM 0 (by omega) x hx0 (by omega)).more (by omega)⟩
      case measure=>simp [intOf];omega
    · have q:=EZ.cb.1.cell 2;have f:=EZ.cb.1.free 2;go_wp2_with fail;go_roundw;case rel=>exact ⟨2,_,by omega,by go_num,(EZ.lM 1 (by omega) x hx0 (by omega)).more (by omega)⟩
      case measure=>simp [intOf];omega
  · have q0:=hst.cb.1.cell 0;have HST:=hst;go_upto_block 2 with fail;go_cut [] (fun wx=>∃ a,gV w wx base g (b+10) rc gc z a (.slice none 0 0) (.slice none 0 0));case first=>
      clear q0;by_cases h6:z=6
      · have t6:(z == 6)=true:=(by simpa using h6);clear h6;go_wp2_with fail;refine (gu _ base g wr.heap.size (b+1+k) 12 0 64 _ 3 (0,0) (hst.src.alloc _) (by have:=HB.o;omega) (heap_alloc_new wr _) (by have:=dC hst.src;omega) rfl (by omega) (by omega) rfl).mono ?_;rintro e w3 ⟨x,rfl,x0,x1,hs,hg⟩;have iy:=(hst.alloc (.cells #[.int .i64 1, .int .i64 2, .int .i64 3, .int .i64 6, .int .i64 6, .int .i64 7, .int .i64 14, .int .i64 22, .int .i64 33, .int .i64 38, .int .i64 0, .int .i64 64] 3)).step hs hg;clear hs hg hst;go_wp2_with fail;refine (gu _ base g w3.heap.size (b+1+k+1) 5 0 512 _ 3 (0,0) (iy.src.alloc _) (by have:=HB.o;omega) (heap_alloc_new w3 _) (by have:=dC iy.src;omega) rfl (by omega) (by omega) rfl).mono ?_;rintro e w4 ⟨y,rfl,y0,y1,hs,hg⟩;have gM:=(iy.alloc (.cells #[.int .i64 420, .int .i64 384, .int .i64 0, .int .i64 511, .int .i64 512] 3)).step hs hg;clear hs hg iy;have q1:=gM.cb.1.cell 1;have f1:=gM.cb.1.free 1;have q2:=gM.cb.1.cell 2;have f2:=gM.cb.1.free 2;have q3:=gM.cb.1.cell 3;have f3:=gM.cb.1.free 3;have q4:=gM.cb.1.cell 4;have f4:=gM.cb.1.free 4;go_wp2_with fail;go_meet;exact ⟨_,((((gM.lM 0 (by omega) x x0 (by omega)).lM 1 (by omega) y y0 (by omega)).lM 2 (by omega) 0 (by omega) (by omega)).lM 3 (by omega) 0 (by omega) (by omega)).more (by omega)⟩
      · have t6:(z == 6)=false:=(by simpa using h6);by_cases h11:z=11
        · have t11:(z == 11)=true:=(by simpa using h11);clear h6 h11;go_wp2_with fail;refine (gu _ base g wr.heap.size (b+1+k) 4 0 512 _ 3 (0,0) (hst.src.alloc _) (by have:=HB.o;omega) (heap_alloc_new wr _) (by have:=dC hst.src;omega) rfl (by omega) (by omega) rfl).mono ?_;rintro e w3 ⟨x,rfl,x0,x1,hs,hg⟩;have iy:=(hst.alloc (.cells #[.int .i64 493, .int .i64 511, .int .i64 448, .int .i64 512] 3)).step hs hg;clear hs hg hst;have q1:=iy.cb.1.cell 1;have f1:=iy.cb.1.free 1;go_wp2_with fail;go_meet;exact ⟨_,(iy.lM 0 (by omega) x x0 (by omega)).more (by omega)⟩
        · have t11:(z == 11)=false:=(by simpa using h11);by_cases h2:z=2∨z=7
          · have t27:(z == 2)=true∨((z == 2)=false∧(z == 7)=true):=by
              rcases h2 with h | h
              · left;simpa using h
              · right;subst h;exact ⟨rfl,rfl⟩
            clear h6 h11 h2;rcases t27 with t2 | ⟨t2,t7⟩;all_goals
              go_wp2_with fail;refine (ku _ base g (b+1+k) _ hst.src (by have:=HB.o;omega) (by omega) (by omega)).mono ?_;rintro e w3 ⟨x,rfl,x0,x1,hs,hg⟩;have iy:=hst.step hs hg;clear hs hg;have q1:=iy.cb.1.cell 1;have f1:=iy.cb.1.free 1;go_wp2_with fail;go_meet;exact ⟨_,(iy.lM 0 (by omega) x x0 (by omega)).more (by omega)⟩
          · have t2:(z == 2)=false:=(by simp;omega);have t7:(z == 7)=false:=(by simp;omega);by_cases h20:z=20
            · have t20:(z == 20)=true:=(by simpa using h20);clear h6 h11 h2 h20;go_wp2_with fail;refine (dW _ base g (b+1+k) _ _ hst.src (by have:=HB.o;omega) (by omega) (by omega) (by omega)).mono ?_;rintro e w3 ⟨x,rfl,x0,x1,hs,hg⟩;have iy:=hst.step hs hg;clear hs hg;go_wp2_with fail;refine (gu _ base g w3.heap.size (b+1+k+1) 5 0 65 _ 3 (0,0) (iy.src.alloc _) (by have:=HB.o;omega) (heap_alloc_new w3 _) (by have:=dC iy.src;omega) rfl (by omega) (by omega) rfl).mono ?_;rintro e w4 ⟨y,rfl,y0,y1,hs,hg⟩;have gM:=(iy.alloc (.cells #[.int .i64 9, .int .i64 0, .int .i64 64, .int .i64 65, .int .i64 9] 3)).step hs hg;clear hs hg iy;have q1:=gM.cb.1.cell 1;have f1:=gM.cb.1.free 1;have q2:=gM.cb.1.cell 2;have f2:=gM.cb.1.free 2;have q3:=gM.cb.1.cell 3;have f3:=gM.cb.1.free 3;have q4:=gM.cb.1.cell 4;have f4:=gM.cb.1.free 4;go_wp2_with fail;go_meet;exact ⟨_,((((gM.lM 0 (by omega) x (by omega) (by omega)).lM 1 (by omega) y y0 (by omega)).lM 2 (by omega) 0 (by omega) (by omega)).lM 3 (by omega) 0 (by omega) (by omega)).more (by omega)⟩
            · have t20:(z == 20)=false:=(by simpa using h20);clear h6 h11 h2 h20;go_wp2_with fail;go_meet;exact ⟨_,hst.more (by omega)⟩
    case rest=>
      obtain ⟨a2,Hr⟩:=hcut;clear hst HST q0;go_wp2_with fail;go_loopw [9] (fun i wr=>∃ (k:Nat) (vp:Value) (ps:List ByteArray),k≤p∧i= .int .i64 (k:Int)∧ps.length=k∧(∀ s∈ps,s.size≤60)∧bJ wr (gc+1) vp ps∧gV w wr base g (b+10+20 * k) rc gc z a2 vp (.slice none 0 0)) (fun i _=>p - (intOf i).toNat);case atStart=>exact ⟨0,_, [],Nat.zero_le _,rfl,rfl,by simp,bJ.nil _ _,Hr.more (by omega)⟩
      case round=>
        obtain ⟨j,vp,ps,hj,rfl,hlen,hsz,hown,hst⟩:=hrel;have HLEN:=Hd hlen;have HSZ:=Hd hsz;clear Hr hlen hsz;by_cases hjp:j < p
        · have q5:wr.cell? ⟨gc,5,none⟩=some vp:=hst.cb.1.cell 5;have hgc:gc < wr.heap.size:=hst.cb.1.lt;go_wp2_with fail
          go_region_law
            (first
              | (go_simp;go_at_call 88;refine (zh _ base g (b+10+20 * j) (by exact hst.src.drew) (by have:=HB.o;omega)).mono ?_;rintro e w3 ⟨x,rfl,hxm,hs3,hg3⟩;have st3:=hst.drew.step hs3 hg3;have BM:=bJ.only (w:=wr.drew) hown hg3 (by have:=hst.h1;have:=hst.h2;have:=hst.h3;omega);have qA:w3.cell? ⟨gc,5,none⟩=some vp:=st3.cb.1.cell 5;have qC:=(st3.alloc (.cells #[.string x] 9)).cb.1.cell 5;go_simp)
              | (refine dO (by rfl) (.tmp 75) (.tmp 78) (by rfl) (gc+1) vp ps (by rfl) (by exact BM.alloc _) (w3.heap.size+1) (some ⟨w3.heap.size,0,none⟩) 1 1 [x] (by rfl) rfl (by exact mZ w3 x 9) (by have:=HLEN.o;simp;omega) (by have:=st3.cb.1.lt;simp;omega) ?_;intro v4 w4 tL hg4 zD;obtain ⟨g4,c4,hv4⟩:=Joins.ownsRow_form tL.o (by simp);subst hv4;have st4:=(st3.alloc (.cells #[.string x] 9)).grown hg4 (fun r hr=>by have:=BM.ge r hr;omega);have qB:w4.cell? ⟨gc,5,none⟩=some vp:=st4.cb.1.cell 5;have fB:=st4.cb.1.free 5))
          all_goals
            have zV:bJ w4 (gc+1) (.slice (some ⟨g4,0,none⟩) (ps.length+1) c4) (ps ++ [x]):=(by simpa using tL);have st5:=st4.Ow (.slice (some ⟨g4,0,none⟩) (ps.length+1) c4);have zW:=zV.setCell (p:=⟨gc,5,none⟩) (by show gc < gc+1;omega) (.slice (some ⟨g4,0,none⟩) (ps.length+1) c4);clear q5 qA qB qC fB BM tL zV st3 st4 hown hst hg3 hs3 hg4 zD;go_wp2_with fail;go_roundw;case rel=>exact ⟨j+1,_,ps ++ [x],by omega,by go_num,by have:=HLEN.o;simp;omega,fun s hs=>by
              rcases List.mem_append.1 hs with h | h
              · exact HSZ.o s h
              · rw [List.mem_singleton.1 h];exact hxm,zW,st5.more (by omega)⟩
            case measure=>simp [intOf];omega
        · go_wp2_with fail;refine (dW _ base g (b+10+20 * j) _ _ hst.src (by have:=HB.o;omega) (by omega) (by omega) (by omega)).mono ?_;rintro e w5 ⟨n3,rfl,n0,n1,hs5,hg5⟩;obtain ⟨n4,rfl⟩:=Int.eq_ofNat_of_zero_le (show 0≤n3 by omega);have st5:=hst.step hs5 hg5;have zV:=bJ.only hown hg5 (by have:=hst.h1;have:=hst.h2;have:=hst.h3;omega);clear hs5 hg5 hst hown;go_wp2_with fail;have hvp:∀ r,vp.ownBlock=some r→r < w5.heap.size:=fun r hr=>(World.ownsRow.lt zV r hr).2;have HLP:=Hd (show ps.length≤2 by have:=HLEN.o;omega);have st6:=st5.more (b' :=b+60) (by omega);have hg5:gc < w5.heap.size:=st5.cb.1.lt;clear HLEN st5;go_loopw [10] (fun i wr=>∃ (k:Nat) (va:Value) (gs:List ByteArray),i= .int .i64 (k:Int)∧gs.length+k≤4∧(∀ s∈gs,s.size≤4)∧bJ wr w5.heap.size va gs∧bJ wr (gc+1) vp ps∧w5.heap.size≤wr.heap.size∧gV w wr base g (b+60+gs.length) rc gc z a2 vp va) (fun i _=>(intOf i).toNat);case atStart=>exact ⟨n4,_, [],rfl,by simp;omega,by simp,bJ.nil _ _,zV,Nat.le_refl _,by simpa using st6⟩
          case round=>
            obtain ⟨i,va,gs,rfl,hlen,hsz,hown,zX,hw5,hst⟩:=hrel;have HSG:=Hd hsz;clear st6 zV hsz;by_cases hi:0 < i
            · have hi1:(0:Int) < (i:Int):=(by omega);have q6:wr.cell? ⟨gc,6,none⟩=some va:=hst.cb.1.cell 6;have qW:(wr.alloc (.cells #[.string ⟨#[97]⟩, .string ⟨#[47,97]⟩, .string ⟨#[98,47,99]⟩, .string ⟨#[104,111,115,116]⟩, .string ⟨#[]⟩, .string ⟨#[46,46,47,98]⟩, .string ⟨#[47]⟩, .string ⟨#[120,32,121]⟩] 9)).cell? ⟨gc,6,none⟩=some va:=(hst.alloc _).cb.1.cell 6;have hgc:gc < wr.heap.size:=hst.cb.1.lt;have hgl:g < wr.heap.size:=dC hst.src;go_wp2_with fail
              go_region_law
                (first
                  | (go_simp;go_at_call 15;refine (je _ base g wr.heap.size (b+60+gs.length) 8 4 _ 9 (0,0) (by exact (hst.src.alloc (.cells #[.string ⟨#[97]⟩, .string ⟨#[47,97]⟩, .string ⟨#[98,47,99]⟩, .string ⟨#[104,111,115,116]⟩, .string ⟨#[]⟩, .string ⟨#[46,46,47,98]⟩, .string ⟨#[47]⟩, .string ⟨#[120,32,121]⟩] 9)).drew) (by have:=HB.o;omega) (by exact heap_alloc_new wr (.cells #[.string ⟨#[97]⟩, .string ⟨#[47,97]⟩, .string ⟨#[98,47,99]⟩, .string ⟨#[104,111,115,116]⟩, .string ⟨#[]⟩, .string ⟨#[46,46,47,98]⟩, .string ⟨#[47]⟩, .string ⟨#[120,32,121]⟩] 9)) (by omega) rfl (by omega) (by omega) rfl).mono ?_;rintro e w3 ⟨x,rfl,hxm,hs3,hg3⟩;have st3:=(hst.alloc (.cells #[.string ⟨#[97]⟩, .string ⟨#[47,97]⟩, .string ⟨#[98,47,99]⟩, .string ⟨#[104,111,115,116]⟩, .string ⟨#[]⟩, .string ⟨#[46,46,47,98]⟩, .string ⟨#[47]⟩, .string ⟨#[120,32,121]⟩] 9)).drew.step hs3 hg3;have BM:=bJ.only (w:=(wr.alloc (.cells #[.string ⟨#[97]⟩, .string ⟨#[47,97]⟩, .string ⟨#[98,47,99]⟩, .string ⟨#[104,111,115,116]⟩, .string ⟨#[]⟩, .string ⟨#[46,46,47,98]⟩, .string ⟨#[47]⟩, .string ⟨#[120,32,121]⟩] 9)).drew) (hown.alloc _) hg3 (by have:=hst.h1;have:=hst.h2;have:=hst.h3;omega);have Ht:=bJ.only (w:=(wr.alloc (.cells #[.string ⟨#[97]⟩, .string ⟨#[47,97]⟩, .string ⟨#[98,47,99]⟩, .string ⟨#[104,111,115,116]⟩, .string ⟨#[]⟩, .string ⟨#[46,46,47,98]⟩, .string ⟨#[47]⟩, .string ⟨#[120,32,121]⟩] 9)).drew) (zX.alloc _) hg3 (by have:=hst.h1;have:=hst.h2;have:=hst.h3;omega);have qA:w3.cell? ⟨gc,6,none⟩=some va:=st3.cb.1.cell 6;have qC:=(st3.alloc (.cells #[.string x] 9)).cb.1.cell 6;go_simp)
                  | (refine dO (by rfl) (.tmp 90) (.tmp 94) (by rfl) w5.heap.size va gs (by rfl) (by exact BM.alloc _) (w3.heap.size+1) (some ⟨w3.heap.size,0,none⟩) 1 1 [x] (by rfl) rfl (by exact mZ w3 x 9) (by simp;omega) (by have h3:=hg3.size;simp at h3 ⊢;omega) ?_;intro v4 w4 tL hg4 zD;obtain ⟨g4,c4,hv4⟩:=Joins.ownsRow_form tL.o (by simp);subst hv4;have st4:=(st3.alloc (.cells #[.string x] 9)).grown hg4 (fun r hr=>by have:=BM.ge r hr;omega);have Hu:=(Ht.alloc (.cells #[.string x] 9)).far hg4 (fun r hr e=>by have:=hvp r hr;have:=BM.ge r e;omega);have qB:w4.cell? ⟨gc,6,none⟩=some va:=st4.cb.1.cell 6;have fB:=st4.cb.1.free 6))
              all_goals
                have zV:bJ w4 w5.heap.size (.slice (some ⟨g4,0,none⟩) (gs.length+1) c4) (gs ++ [x]):=(by simpa using tL);have st5:=st4.Ox (.slice (some ⟨g4,0,none⟩) (gs.length+1) c4);have zW:=zV.setCell (p:=⟨gc,6,none⟩) (by show gc < w5.heap.size;omega) (.slice (some ⟨g4,0,none⟩) (gs.length+1) c4);have rC:=Hu.setCell (p:=⟨gc,6,none⟩) (by show gc < gc+1;omega) (.slice (some ⟨g4,0,none⟩) (gs.length+1) c4);have hw6:w5.heap.size≤(w4.setCell ⟨gc,6,none⟩ (.slice (some ⟨g4,0,none⟩) (gs.length+1) c4)).heap.size:=by
                  have h3:=hg3.size;have h4:=hg4.size;simp at h3 h4 ⊢;omega
                clear q6 qW qA qB qC fB BM tL zV Ht Hu st3 st4 hown zX hst hg3 hs3 hg4 zD;go_wp2_with fail;go_roundw;case rel=>exact ⟨i - 1,_,gs ++ [x],by go_num,by simp;omega,fun s hs=>by
                  rcases List.mem_append.1 hs with h | h
                  · exact HSG.o s h
                  · rw [List.mem_singleton.1 h];exact hxm,zW,rC,hw6,st5.more (by simp;omega)⟩
                case measure=>simp [intOf];omega
            · go_wp2_with fail;refine (ku _ base g (b+60+gs.length) _ hst.src (by have:=HB.o;omega) (by omega) (by omega)).mono ?_;rintro e w6 ⟨x,rfl,x0,x1,hs6,hg6⟩;have st6:=hst.step hs6 hg6;have zW:=bJ.only hown hg6 (by have:=hst.h1;have:=hst.h2;have:=hst.h3;omega);have rC:=bJ.only zX hg6 (by have:=hst.h1;have:=hst.h2;have:=hst.h3;omega);clear hs6 hg6 hst hown zX;obtain ⟨Ap,np,cp,rfl⟩:=slice_form rC;obtain ⟨Ag,ng,cg,rfl⟩:=slice_form zW;go_upto_if 99 with fail;go_cut [] (fun wx=>∃ (z3:Int) (a3:Nat→Int), -1≤z3∧z3≤33∧bJ wx w5.heap.size (.slice Ag ng cg) gs∧bJ wx (gc+1) (.slice Ap np cp) ps∧gV w wx base g (b+100) rc gc z3 a3 (.slice Ap np cp) (.slice Ag ng cg));case first=>
                by_cases h39:x=39
                · have t39:(x == 39)=true:=(by simpa using h39);clear h39;go_wp2_with fail;refine (ku _ base g (b+60+gs.length+1) _ st6.src (by have:=HB.o;omega) (by omega) (by omega)).mono ?_;rintro e w7 ⟨y,rfl,y0,y1,hs7,hg7⟩;have st7:=st6.step hs7 hg7;have MX:=bJ.only zW hg7 (by have:=st6.h1;have:=st6.h2;have:=st6.h3;omega);have Hw:=bJ.only rC hg7 (by have:=st6.h1;have:=st6.h2;have:=st6.h3;omega);clear hs7 hg7 st6 zW rC;go_wp2_with fail;refine (dW _ base g (b+60+gs.length+1+1) _ _ st7.src (by have:=HB.o;omega) (by omega) (by omega) (by omega)).mono ?_;rintro e w8 ⟨z2,rfl,z20,z21,hs8,hg8⟩;have st8:=st7.step hs8 hg8;have MZ:=bJ.only MX hg8 (by have:=st7.h1;have:=st7.h2;have:=st7.h3;omega);have Hy:=bJ.only Hw hg8 (by have:=st7.h1;have:=st7.h2;have:=st7.h3;omega);clear hs8 hg8 st7 MX Hw;have stE:=(st8.lM 3 (by omega) y y0 (by omega)).Oy z2;have Oz:=(MZ.setCell (p:=⟨gc,1+3,none⟩) (by show gc < w5.heap.size;omega) (.int .i64 y)).setCell (p:=⟨gc,0,none⟩) (by show gc < w5.heap.size;omega) (.int .i64 z2);have Lp:=(Hy.setCell (p:=⟨gc,1+3,none⟩) (by show gc < gc+1;omega) (.int .i64 y)).setCell (p:=⟨gc,0,none⟩) (by show gc < gc+1;omega) (.int .i64 z2);have d0:=st8.cb.1.cell 0;have e0:=st8.cb.1.free 0;have d4:=st8.cb.1.cell 4;have e4:=st8.cb.1.free 4;clear st8 MZ Hy;go_wp2_with fail;go_meet;exact ⟨z2,_,by omega,by omega,Oz,Lp,stE.more (by omega)⟩
                · have t39:(x == 39)=false:=(by simpa using h39);clear h39;go_wp2_with fail;go_meet;exact ⟨z,_,by omega,by omega,zW,rC,st6.more (by omega)⟩
              case rest=>
                obtain ⟨z3,a3,P8,Qa,OB,Lr,stF⟩:=hcut;clear st6 zW rC;have r0:=stF.rb.cell 0;have fr0:=stF.rb.free 0;have c0:=stF.cb.1.cell 0;have r1:=stF.rb.cell 1;have fr1:=stF.rb.free 1;have c1:=stF.cb.1.cell 1;have r2:=stF.rb.cell 2;have fr2:=stF.rb.free 2;have c2:=stF.cb.1.cell 2;have r3:=stF.rb.cell 3;have fr3:=stF.rb.free 3;have c3:=stF.cb.1.cell 3;have r4:=stF.rb.cell 4;have fr4:=stF.rb.free 4;have c4:=stF.cb.1.cell 4;have r5:=stF.rb.cell 5;have fr5:=stF.rb.free 5;have c5:=stF.cb.1.cell 5;have r6:=stF.rb.cell 6;have fr6:=stF.rb.free 6;have c6:=stF.cb.1.cell 6;go_wp2_with fail;refine bodyPost_ret (zU Tryz.func41 rfl _ _ rc _ rfl (((((((stF.rb.put 0 (.int .i64 z3)).put 1 (.int .i64 (a3 0))).put 2 (.int .i64 (a3 1))).put 3 (.int .i64 (a3 2))).put 4 (.int .i64 (a3 3))).put 5 (.slice Ap np cp)).put 6 (.slice Ag ng cg)) rfl) rfl ?_;exact ⟨z3,a3,_,_,ps,gs,rfl,by omega,stF.cb.2,HLP.o,by omega,HSZ.o,HSG.o,(((((((Lr.setCell (p:=⟨rc,0,none⟩) (by show rc < gc+1;omega) (.int .i64 z3)).setCell (p:=⟨rc,1,none⟩) (by show rc < gc+1;omega) (.int .i64 (a3 0))).setCell (p:=⟨rc,2,none⟩) (by show rc < gc+1;omega) (.int .i64 (a3 1))).setCell (p:=⟨rc,3,none⟩) (by show rc < gc+1;omega) (.int .i64 (a3 2))).setCell (p:=⟨rc,4,none⟩) (by show rc < gc+1;omega) (.int .i64 (a3 3))).setCell (p:=⟨rc,5,none⟩) (by show rc < gc+1;omega) (.slice Ap np cp)).setCell (p:=⟨rc,6,none⟩) (by show rc < gc+1;omega) (.slice Ag ng cg)).mono (by have:=stF.h1;have:=stF.h2;omega),(((((((OB.setCell (p:=⟨rc,0,none⟩) (by show rc < w5.heap.size;omega) (.int .i64 z3)).setCell (p:=⟨rc,1,none⟩) (by show rc < w5.heap.size;omega) (.int .i64 (a3 0))).setCell (p:=⟨rc,2,none⟩) (by show rc < w5.heap.size;omega) (.int .i64 (a3 1))).setCell (p:=⟨rc,3,none⟩) (by show rc < w5.heap.size;omega) (.int .i64 (a3 2))).setCell (p:=⟨rc,4,none⟩) (by show rc < w5.heap.size;omega) (.int .i64 (a3 3))).setCell (p:=⟨rc,5,none⟩) (by show rc < w5.heap.size;omega) (.slice Ap np cp)).setCell (p:=⟨rc,6,none⟩) (by show rc < w5.heap.size;omega) (.slice Ag ng cg)).mono (by have:=stF.h1;have:=stF.h2;omega),(((((((stF.src.setCell (p:=⟨rc,0,none⟩) (by show base≤rc;omega) (by show rc≠g;omega) (.int .i64 z3)).setCell (p:=⟨rc,1,none⟩) (by show base≤rc;omega) (by show rc≠g;omega) (.int .i64 (a3 0))).setCell (p:=⟨rc,2,none⟩) (by show base≤rc;omega) (by show rc≠g;omega) (.int .i64 (a3 1))).setCell (p:=⟨rc,3,none⟩) (by show base≤rc;omega) (by show rc≠g;omega) (.int .i64 (a3 2))).setCell (p:=⟨rc,4,none⟩) (by show base≤rc;omega) (by show rc≠g;omega) (.int .i64 (a3 3))).setCell (p:=⟨rc,5,none⟩) (by show base≤rc;omega) (by show rc≠g;omega) (.slice Ap np cp)).setCell (p:=⟨rc,6,none⟩) (by show base≤rc;omega) (by show rc≠g;omega) (.slice Ag ng cg)).more (by omega),(aF (aF (aF (aF (aF (aF (aF stF.only (p:=⟨rc,0,none⟩) (.inr stF.h1) (.int .i64 z3)) (p:=⟨rc,1,none⟩) (.inr stF.h1) (.int .i64 (a3 0))) (p:=⟨rc,2,none⟩) (.inr stF.h1) (.int .i64 (a3 1))) (p:=⟨rc,3,none⟩) (.inr stF.h1) (.int .i64 (a3 2))) (p:=⟨rc,4,none⟩) (.inr stF.h1) (.int .i64 (a3 3))) (p:=⟨rc,5,none⟩) (.inr stF.h1) (.slice Ap np cp)) (p:=⟨rc,6,none⟩) (.inr stF.h1) (.slice Ag ng cg))⟩
end Go.Proofs.YtollifnnpihfdaaGreatDoor
