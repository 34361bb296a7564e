import Derived.Test.YtnpaoepkpdileaaGreatDoorF29
set_option maxRecDepth 100000
set_option maxHeartbeats 64000000
set_option linter.all false
namespace Go.Proofs.YtnpaoepkpdileaaGreatDoor
open Go.RowKit
def rH (w:World) (gc:Nat) (z:Int) (a:Nat→Int) (vp va:Value):Prop:=Blk w gc 33 #[.int .i64 z, .int .i64 (a 0), .int .i64 (a 1), .int .i64 (a 2), .int .i64 (a 3),vp,va]∧∀ j,j < 4→0≤a j∧a j≤1000
def kP (a:Nat→Int) (k:Nat) (v:Int):Nat→Int:=fun j=>if j=k then v else a j
theorem rH.kP {w:World} {gc:Nat} {z:Int} {a:Nat→Int} {vp va:Value} (h:rH w gc z a vp va) (k:Nat) (hk:k < 4) (v:Int) (h0:0≤v) (h1:v≤1000):rH (w.setCell ⟨gc,1+k,none⟩ (.int .i64 v)) gc z (kP a k v) vp va:=by
 refine ⟨?_,fun j hj=>?_⟩
 · have:=h.1.put (1+k) (.int .i64 v)
   match k,hk with
   | 0,_=>exact this
   | 1,_=>exact this
   | 2,_=>exact this
   | 3,_=>exact this
 · unfold Go.Proofs.YtnpaoepkpdileaaGreatDoor.kP;split
   · exact ⟨h0,h1⟩
   · exact h.2 j hj
theorem rH.only {w w' :World} {gc g:Nat} {z:Int} {a:Nat→Int} {vp va:Value} (h:rH w gc z a vp va) (hg:w.grownBy w' (some g)) (hne:gc≠g):rH w' gc z a vp va:=⟨h.1.grown hg (fun e=>hne (by injection e with e;exact e.symm)),h.2⟩
theorem rH.below {w w' :World} {gc:Nat} {z:Int} {a:Nat→Int} {vp va:Value} (h:rH w gc z a vp va) (hb:Below w.heap.size w w'):rH w' gc z a vp va:=⟨h.1.below hb,h.2⟩
theorem rH.alloc {w:World} {gc:Nat} {z:Int} {a:Nat→Int} {vp va:Value} (h:rH w gc z a vp va) (o:Obj):rH (w.alloc o) gc z a vp va:=⟨h.1.alloc o,h.2⟩
abbrev rJ:Array Value:=#[.int .i64 0, .int .i64 0, .int .i64 0, .int .i64 0, .int .i64 0, .slice none 0 0, .slice none 0 0]
structure gM (w wr:World) (base g:Nat) (b:Int) (rc gc:Nat) (z:Int) (a:Nat→Int) (vp va:Value):Prop where
 only:w.grownBy wr (some g)
 src:aP wr base g b
 cb:rH wr gc z a vp va
 rb:Blk wr rc 33 rJ
 h1:w.heap.size≤rc
 h2:rc < gc
 h3:g < w.heap.size
 h4:base≤w.heap.size
section
variable {w wr w' :World} {base g rc gc:Nat} {b b' :Int} {z:Int} {a:Nat→Int} {vp va:Value}
theorem gM.more (h:gM w wr base g b rc gc z a vp va) (hb:b≤b'):gM w wr base g b' rc gc z a vp va:=⟨h.only,h.src.more hb,h.cb,h.rb,h.h1,h.h2,h.h3,h.h4⟩
theorem gM.alloc (h:gM w wr base g b rc gc z a vp va) (o:Obj):gM w (wr.alloc o) base g b rc gc z a vp va:=⟨bg h.only o,h.src.alloc o,h.cb.alloc o,h.rb.alloc o,h.h1,h.h2,h.h3,h.h4⟩
theorem gM.step (h:gM w wr base g b rc gc z a vp va) (hs:aP w' base g b') (hg:wr.grownBy w' (some g)):gM w w' base g b' rc gc z a vp va:=
 ⟨h.only.trans hg,hs,h.cb.only hg (by have:=h.h1;have:=h.h2;have:=h.h3;omega),h.rb.grown hg (fun e=>by injection e with e;have:=h.h1;have:=h.h3;omega),h.h1,h.h2,h.h3,h.h4⟩
theorem gM.below (h:gM w wr base g b rc gc z a vp va) (hb:Below wr.heap.size wr w'):gM w w' base g b rc gc z a vp va:=
 ⟨bF h.only hb,h.src.below hb,h.cb.below hb,h.rb.below hb,h.h1,h.h2,h.h3,h.h4⟩
theorem gM.kP (h:gM w wr base g b rc gc z a vp va) (k:Nat) (hk:k < 4) (v:Int) (h0:0≤v) (h1:v≤1000):gM w (wr.setCell ⟨gc,1+k,none⟩ (.int .i64 v)) base g b rc gc z (kP a k v) vp va:=
 ⟨aB h.only (.inr (by show w.heap.size≤gc;have:=h.h1;have:=h.h2;omega)) _,h.src.setCell (by show base≤gc;have:=h.h1;have:=h.h2;have:=h.h4;omega) (by show gc≠g;have:=h.h1;have:=h.h2;have:=h.h3;omega) _,h.cb.kP k hk v h0 h1,h.rb.ag _ (by show rc≠gc;have:=h.h2;omega),h.h1,h.h2,h.h3,h.h4⟩
theorem gM.drew (h:gM w wr base g b rc gc z a vp va):gM w wr.drew base g b rc gc z a vp va:=⟨⟨h.only.os,h.only.tape,h.only.output,h.only.size,h.only.block⟩,h.src.drew,h.cb,h.rb,h.h1,h.h2,h.h3,h.h4⟩
theorem gM.grown (h:gM w wr base g b rc gc z a vp va) {row:Option Nat} (hg:wr.grownBy w' row) (hr:∀ r,row=some r→gc < r):gM w w' base g b rc gc z a vp va:=
 ⟨⟨hg.os.trans h.only.os,hg.tape.trans h.only.tape,hg.output.trans h.only.output,Nat.le_trans h.only.size hg.size,fun i hi hne=>(hg.block i (Nat.lt_of_lt_of_le hi h.only.size) (fun e=>by have:=hr i e.symm;have:=h.h1;have:=h.h2;omega)).trans (h.only.block i hi hne)⟩,
  h.src.grown hg (fun r e=>by have:=hr r e;have:=h.h1;have:=h.h2;have:=h.h3;have:=h.h4;omega),⟨h.cb.1.grown hg (fun e=>by have:=hr gc e;omega),h.cb.2⟩,h.rb.grown hg (fun e=>by have:=hr rc e;have:=h.h2;omega),h.h1,h.h2,h.h3,h.h4⟩
theorem gM.JE (h:gM w wr base g b rc gc z a vp va) (v:Value):gM w (wr.setCell ⟨gc,5,none⟩ v) base g b rc gc z a v va:=
 ⟨aB h.only (.inr (by show w.heap.size≤gc;have:=h.h1;have:=h.h2;omega)) _,h.src.setCell (by show base≤gc;have:=h.h1;have:=h.h2;have:=h.h4;omega) (by show gc≠g;have:=h.h1;have:=h.h2;have:=h.h3;omega) _,⟨h.cb.1.put 5 v,h.cb.2⟩,h.rb.ag _ (by show rc≠gc;have:=h.h2;omega),h.h1,h.h2,h.h3,h.h4⟩
theorem gM.JF (h:gM w wr base g b rc gc z a vp va) (v:Value):gM w (wr.setCell ⟨gc,6,none⟩ v) base g b rc gc z a vp v:=
 ⟨aB h.only (.inr (by show w.heap.size≤gc;have:=h.h1;have:=h.h2;omega)) _,h.src.setCell (by show base≤gc;have:=h.h1;have:=h.h2;have:=h.h4;omega) (by show gc≠g;have:=h.h1;have:=h.h2;have:=h.h3;omega) _,⟨h.cb.1.put 6 v,h.cb.2⟩,h.rb.ag _ (by show rc≠gc;have:=h.h2;omega),h.h1,h.h2,h.h3,h.h4⟩
theorem gM.JG (h:gM w wr base g b rc gc z a vp va) (z' :Int):gM w (wr.setCell ⟨gc,0,none⟩ (.int .i64 z')) base g b rc gc z' a vp va:=
 ⟨aB h.only (.inr (by show w.heap.size≤gc;have:=h.h1;have:=h.h2;omega)) _,h.src.setCell (by show base≤gc;have:=h.h1;have:=h.h2;have:=h.h4;omega) (by show gc≠g;have:=h.h1;have:=h.h2;have:=h.h3;omega) _,⟨h.cb.1.put 0 (.int .i64 z'),h.cb.2⟩,h.rb.ag _ (by show rc≠gc;have:=h.h2;omega),h.h1,h.h2,h.h3,h.h4⟩
theorem l8 (w:World) (x:ByteArray) (t:TypeId):cK (w.alloc (.cells #[.string x] t)) (w.heap.size+1) (some ⟨w.heap.size,0,none⟩) [x]:=fun k hk=>by
 have hk:k=0:=by simp at hk;omega
 subst hk;exact ⟨_,rfl,by show w.heap.size < _;omega,by show World.cell? _ ⟨w.heap.size,0,none⟩=_;rw [(Blk.new w #[.string x] t).cell];rfl⟩
theorem cO.only {w w' :World} {lo:Nat} {v:Value} {L:List ByteArray} (h:cO w lo v L) {g:Nat} (hg:w.grownBy w' (some g)) (hlt:g < lo):cO w' lo v L:=
 World.ownsRow.kept h hg (by
  cases hv:v.ownBlock with
  | none=>exact .inl rfl
  | some k=>right;intro e;injection e with e;have:=h.ge k hv;omega)
theorem cO.setCell {w:World} {lo:Nat} {v:Value} {L:List ByteArray} (h:cO w lo v L) {p:Addr} (hp:p.block < lo) (u:Value):cO (w.setCell p u) lo v L:=ownsRow_setCell_below h hp u
end
def xS (w:World) (base g:Nat) (b:Int) (e:Ending) (w' :World):Prop:=∃ (z:Int) (a:Nat→Int) (vp va:Value) (ps gs:List ByteArray),e= .returned (.agg #[.int .i64 z, .int .i64 (a 0), .int .i64 (a 1), .int .i64 (a 2), .int .i64 (a 3),vp,va])∧(-1≤z∧z≤33)∧(∀ j,j < 4→0≤a j∧a j≤1000)∧ps.length≤2∧gs.length≤4∧(∀ s∈ps,s.size≤60)∧(∀ s∈gs,s.size≤4)∧cO w' w.heap.size vp ps∧cO w' w.heap.size va gs∧aP w' base g b∧w.grownBy w' (some g)
theorem vX:(Tryz.prog.info? 33).map (·.size)=some 7:=by kernel_rfl
theorem xU {f:FuncId} {fn:Func} (_hf:Tryz.prog.funcs[f]? =some fn) (h:fn.results=#[.cell 2 33]) (tmps:Array Value) (w:World) (g:Nat) (cs:Array Value) (hp:tmps.getD 2 undef= .pointer (some ⟨g,0,none⟩)) (hg:Blk w g 33 cs) (h7:cs.size=7):
  (results fn tmps).run Tryz.prog w= .ok (.agg cs) w:=
 results_cell_row h tmps w g _ cs (0,0) _ hp hg Tryz.underlying33 rfl (by rw [h7];exact vX)
theorem cO.mono {w:World} {lo lo' :Nat} {v:Value} {L:List ByteArray} (h:cO w lo v L) (hb:lo' ≤lo):cO w lo' v L:=Joins.ownsRow_le h hb
theorem cO.far {w w' :World} {lo:Nat} {v v2:Value} {L:List ByteArray} (h:cO w lo v L) (hg:w.grownBy w' v2.ownBlock) (hne:∀ r,v.ownBlock=some r→v2.ownBlock≠some r):cO w' lo v L:=
 World.ownsRow.kept h hg (by
  cases hv:v.ownBlock with
  | none=>exact .inl rfl
  | some k=>right;intro e;exact hne k hv e.symm)
theorem slice_form {w:World} {lo:Nat} {v:Value} {L:List ByteArray} (h:cO w lo v L):∃ A n c,v= .slice A n c:=by
 obtain ⟨A,c,e,_⟩:=h.strs;exact ⟨A,_,c,e⟩
attribute [local irreducible] eT fq
theorem je (w:World) (base g:Nat) (b:Int) (h:aP w base g b) (hb:b≤1000000000000):
  Calls Tryz.prog 12 #[.pointer (some ⟨g,0,none⟩)] w (xS w base g (b+200)):=by
 have H:=Hd h;have HB:=Hd hb;have Ep:g < w.heap.size:=dh h;have hbase:base≤w.heap.size:=by have:=h.1;omega
 clear h hb;go_in;go_wp2_with fail;refine (bU _ base g (w.heap.size+1) b 26 0 21 _ 3 (0,0) ((H.o.alloc (.cells rJ 33)).alloc _) (by have:=HB.o;omega) (by have:=heap_alloc_new (w.alloc (.cells rJ 33)) (.cells #[.int .i64 0, .int .i64 1, .int .i64 2, .int .i64 3, .int .i64 4, .int .i64 5, .int .i64 6, .int .i64 6, .int .i64 6, .int .i64 7, .int .i64 8, .int .i64 9, .int .i64 10, .int .i64 11, .int .i64 11, .int .i64 12, .int .i64 13, .int .i64 13, .int .i64 14, .int .i64 15, .int .i64 16, .int .i64 17, .int .i64 18, .int .i64 19, .int .i64 20, .int .i64 21] 3);simpa using this) (by omega) rfl (by omega) (by omega) rfl).mono ?_;rintro e w1 ⟨z,rfl,hz0,hz1,hs1,hg1⟩;have hon:=(bg (bg (World.grownBy.refl w (some g)) (.cells rJ 33)) (.cells #[.int .i64 0, .int .i64 1, .int .i64 2, .int .i64 3, .int .i64 4, .int .i64 5, .int .i64 6, .int .i64 6, .int .i64 6, .int .i64 7, .int .i64 8, .int .i64 9, .int .i64 10, .int .i64 11, .int .i64 11, .int .i64 12, .int .i64 13, .int .i64 13, .int .i64 14, .int .i64 15, .int .i64 16, .int .i64 17, .int .i64 18, .int .i64 19, .int .i64 20, .int .i64 21] 3)).trans hg1;have hrb:Blk w1 w.heap.size 33 rJ:=((Blk.new w rJ 33).alloc _).grown hg1 (fun e=>by injection e with e;omega);have hlt1:w.heap.size < w1.heap.size:=hrb.lt;have HST:gM w (w1.alloc (.cells #[.int .i64 z, .int .i64 0, .int .i64 0, .int .i64 0, .int .i64 0, .slice none 0 0, .slice none 0 0] 33)) base g (b+1) w.heap.size w1.heap.size z (fun _=>0) (.slice none 0 0) (.slice none 0 0):=
  ⟨bg hon _,hs1.alloc _,⟨Blk.new w1 _ _,fun j _=>by simp⟩,hrb.alloc _,Nat.le_refl _,hlt1,Ep,hbase⟩
 clear hs1 hg1 hon hrb;go_wp2_with fail;have HSH:=Hd (CY z);have hsm:(eT z).nums≤2∧(eT z).kL≤2∧(eT z).least≤1∧(eT z).most≤4∧(eT z).least≤(eT z).most:=by
  obtain ⟨n,rfl⟩:=Int.eq_ofNat_of_zero_le hz0;rw [mQ];have H:∀ m:Fin 22,(fq m).nums≤2∧(fq m).kL≤2∧(fq m).least≤1∧(fq m).most≤4∧(fq m).least≤(fq m).most:=by decide+kernel
  exact H ⟨n,by omega⟩
 generalize eT z=r at *;obtain ⟨nm,m,p,l,u⟩:=r;obtain ⟨s1,s2,s3,s4,s5⟩:=hsm;simp only at s1 s2 s3 s4 s5;refine (HSH.o _).mono ?_;rintro e w2 ⟨rfl,hb2⟩;have Di:=HST.below hb2;clear HST hb2 HSH;go_wp2_with fail;generalize w1.heap.size=gc at *;generalize w.heap.size=rc at *;go_loopw [8] (fun i wr=>∃ (k:Nat) (a:Nat→Int),k≤m∧i= .int .i64 (k:Int)∧gM w wr base g (b+1+k) rc gc z a (.slice none 0 0) (.slice none 0 0)) (fun i _=>m - (intOf i).toNat);case atStart=>exact ⟨0,_,Nat.zero_le _,rfl,Di.more (by omega)⟩
 case round=>
  obtain ⟨k,a,hk,rfl,hst⟩:=hrel;clear Di;by_cases hkm:k < m
  · have hlt:g < wr.heap.size:=dh hst.src;go_wp2_with fail;refine (bU _ base g wr.heap.size (b+1+k) 8 0 493 _ 3 (0,0) (hst.src.alloc _) (by have:=HB.o;omega) (heap_alloc_new wr _) (by omega) rfl (by omega) (by omega) rfl).mono ?_;rintro e w3 ⟨x,rfl,hx0,hx1,hs3,hg3⟩;have Bd:=(hst.alloc (.cells #[.int .i64 0, .int .i64 1, .int .i64 2, .int .i64 3, .int .i64 5, .int .i64 7, .int .i64 420, .int .i64 493] 3)).step hs3 hg3;clear hs3 hg3 hst;have hcs:k=0∨k=1:=(by omega);rcases hcs with rfl | rfl
    · have q:=Bd.cb.1.cell 1;have f:=Bd.cb.1.free 1;go_wp2_with fail;go_roundw;case rel=>exact ⟨1,_,by omega,by go_num,(Bd.kP 0 (by omega) x hx0 (by omega)).more (by omega)⟩
      case measure=>simp [intOf];omega
    · have q:=Bd.cb.1.cell 2;have f:=Bd.cb.1.free 2;go_wp2_with fail;go_roundw;case rel=>exact ⟨2,_,by omega,by go_num,(Bd.kP 1 (by omega) x hx0 (by omega)).more (by omega)⟩
      case measure=>simp [intOf];omega
  · have q0:=hst.cb.1.cell 0;have HST:=hst;go_upto_block 2 with fail;go_cut [] (fun wx=>∃ a,gM w wx base g (b+10) rc gc z a (.slice none 0 0) (.slice none 0 0));case first=>
      clear q0;by_cases h6:z=6
      · have t6:(z == 6)=true:=(by simpa using h6);clear h6;go_wp2_with fail;refine (bU _ base g wr.heap.size (b+1+k) 12 0 64 _ 3 (0,0) (hst.src.alloc _) (by have:=HB.o;omega) (heap_alloc_new wr _) (by have:=dh hst.src;omega) rfl (by omega) (by omega) rfl).mono ?_;rintro e w3 ⟨x,rfl,x0,x1,hs,hg⟩;have gZ:=(hst.alloc (.cells #[.int .i64 1, .int .i64 2, .int .i64 3, .int .i64 6, .int .i64 6, .int .i64 7, .int .i64 14, .int .i64 22, .int .i64 33, .int .i64 38, .int .i64 0, .int .i64 64] 3)).step hs hg;clear hs hg hst;go_wp2_with fail;refine (bU _ base g w3.heap.size (b+1+k+1) 5 0 512 _ 3 (0,0) (gZ.src.alloc _) (by have:=HB.o;omega) (heap_alloc_new w3 _) (by have:=dh gZ.src;omega) rfl (by omega) (by omega) rfl).mono ?_;rintro e w4 ⟨y,rfl,y0,y1,hs,hg⟩;have gH:=(gZ.alloc (.cells #[.int .i64 420, .int .i64 384, .int .i64 0, .int .i64 511, .int .i64 512] 3)).step hs hg;clear hs hg gZ;have q1:=gH.cb.1.cell 1;have f1:=gH.cb.1.free 1;have q2:=gH.cb.1.cell 2;have f2:=gH.cb.1.free 2;have q3:=gH.cb.1.cell 3;have f3:=gH.cb.1.free 3;have q4:=gH.cb.1.cell 4;have f4:=gH.cb.1.free 4;go_wp2_with fail;go_meet;exact ⟨_,((((gH.kP 0 (by omega) x x0 (by omega)).kP 1 (by omega) y y0 (by omega)).kP 2 (by omega) 0 (by omega) (by omega)).kP 3 (by omega) 0 (by omega) (by omega)).more (by omega)⟩
      · have t6:(z == 6)=false:=(by simpa using h6);by_cases h11:z=11
        · have t11:(z == 11)=true:=(by simpa using h11);clear h6 h11;go_wp2_with fail;refine (bU _ base g wr.heap.size (b+1+k) 4 0 512 _ 3 (0,0) (hst.src.alloc _) (by have:=HB.o;omega) (heap_alloc_new wr _) (by have:=dh hst.src;omega) rfl (by omega) (by omega) rfl).mono ?_;rintro e w3 ⟨x,rfl,x0,x1,hs,hg⟩;have gZ:=(hst.alloc (.cells #[.int .i64 493, .int .i64 511, .int .i64 448, .int .i64 512] 3)).step hs hg;clear hs hg hst;have q1:=gZ.cb.1.cell 1;have f1:=gZ.cb.1.free 1;go_wp2_with fail;go_meet;exact ⟨_,(gZ.kP 0 (by omega) x x0 (by omega)).more (by omega)⟩
        · have t11:(z == 11)=false:=(by simpa using h11);by_cases h2:z=2∨z=7
          · have t27:(z == 2)=true∨((z == 2)=false∧(z == 7)=true):=by
              rcases h2 with h | h
              · left;simpa using h
              · right;subst h;exact ⟨rfl,rfl⟩
            clear h6 h11 h2;rcases t27 with t2 | ⟨t2,t7⟩;all_goals
              go_wp2_with fail;refine (iP _ base g (b+1+k) _ hst.src (by have:=HB.o;omega) (by omega) (by omega)).mono ?_;rintro e w3 ⟨x,rfl,x0,x1,hs,hg⟩;have gZ:=hst.step hs hg;clear hs hg;have q1:=gZ.cb.1.cell 1;have f1:=gZ.cb.1.free 1;go_wp2_with fail;go_meet;exact ⟨_,(gZ.kP 0 (by omega) x x0 (by omega)).more (by omega)⟩
          · have t2:(z == 2)=false:=(by simp;omega);have t7:(z == 7)=false:=(by simp;omega);by_cases h20:z=20
            · have t20:(z == 20)=true:=(by simpa using h20);clear h6 h11 h2 h20;go_wp2_with fail;refine (aI _ base g (b+1+k) _ _ hst.src (by have:=HB.o;omega) (by omega) (by omega) (by omega)).mono ?_;rintro e w3 ⟨x,rfl,x0,x1,hs,hg⟩;have gZ:=hst.step hs hg;clear hs hg;go_wp2_with fail;refine (bU _ base g w3.heap.size (b+1+k+1) 5 0 65 _ 3 (0,0) (gZ.src.alloc _) (by have:=HB.o;omega) (heap_alloc_new w3 _) (by have:=dh gZ.src;omega) rfl (by omega) (by omega) rfl).mono ?_;rintro e w4 ⟨y,rfl,y0,y1,hs,hg⟩;have gH:=(gZ.alloc (.cells #[.int .i64 9, .int .i64 0, .int .i64 64, .int .i64 65, .int .i64 9] 3)).step hs hg;clear hs hg gZ;have q1:=gH.cb.1.cell 1;have f1:=gH.cb.1.free 1;have q2:=gH.cb.1.cell 2;have f2:=gH.cb.1.free 2;have q3:=gH.cb.1.cell 3;have f3:=gH.cb.1.free 3;have q4:=gH.cb.1.cell 4;have f4:=gH.cb.1.free 4;go_wp2_with fail;go_meet;exact ⟨_,((((gH.kP 0 (by omega) x (by omega) (by omega)).kP 1 (by omega) y y0 (by omega)).kP 2 (by omega) 0 (by omega) (by omega)).kP 3 (by omega) 0 (by omega) (by omega)).more (by omega)⟩
            · have t20:(z == 20)=false:=(by simpa using h20);clear h6 h11 h2 h20;go_wp2_with fail;go_meet;exact ⟨_,hst.more (by omega)⟩
    case rest=>
      obtain ⟨a2,Di⟩:=hcut;clear hst HST q0;go_wp2_with fail;go_loopw [9] (fun i wr=>∃ (k:Nat) (vp:Value) (ps:List ByteArray),k≤p∧i= .int .i64 (k:Int)∧ps.length=k∧(∀ s∈ps,s.size≤60)∧cO wr (gc+1) vp ps∧gM w wr base g (b+10+20 * k) rc gc z a2 vp (.slice none 0 0)) (fun i _=>p - (intOf i).toNat);case atStart=>exact ⟨0,_, [],Nat.zero_le _,rfl,rfl,by simp,cO.nil _ _,Di.more (by omega)⟩
      case round=>
        obtain ⟨j,vp,ps,hj,rfl,hlen,hsz,hown,hst⟩:=hrel;have HLEN:=Hd hlen;have HSZ:=Hd hsz;clear Di hlen hsz;by_cases hjp:j < p
        · have q5:wr.cell? ⟨gc,5,none⟩=some vp:=hst.cb.1.cell 5;have hgc:gc < wr.heap.size:=hst.cb.1.lt;go_wp2_with fail
          go_region_law
            (first
              | (go_simp;go_at_call 28;refine (wT _ base g (b+10+20 * j) (by exact hst.src.drew) (by have:=HB.o;omega)).mono ?_;rintro e w3 ⟨x,rfl,hxm,hs3,hg3⟩;have st3:=hst.drew.step hs3 hg3;have yP:=cO.only (w:=wr.drew) hown hg3 (by have:=hst.h1;have:=hst.h2;have:=hst.h3;omega);have qA:w3.cell? ⟨gc,5,none⟩=some vp:=st3.cb.1.cell 5;have qC:=(st3.alloc (.cells #[.string x] 9)).cb.1.cell 5;go_simp)
              | (refine gK (by rfl) (.tmp 75) (.tmp 78) (by rfl) (gc+1) vp ps (by rfl) (by exact yP.alloc _) (w3.heap.size+1) (some ⟨w3.heap.size,0,none⟩) 1 1 [x] (by rfl) rfl (by exact l8 w3 x 9) (by have:=HLEN.o;simp;omega) (by have:=st3.cb.1.lt;simp;omega) ?_;intro v4 w4 rz hg4 xA;obtain ⟨g4,c4,hv4⟩:=Joins.ownsRow_form rz.o (by simp);subst hv4;have st4:=(st3.alloc (.cells #[.string x] 9)).grown hg4 (fun r hr=>by have:=yP.ge r hr;omega);have qB:w4.cell? ⟨gc,5,none⟩=some vp:=st4.cb.1.cell 5;have fB:=st4.cb.1.free 5))
          all_goals
            have xV:cO w4 (gc+1) (.slice (some ⟨g4,0,none⟩) (ps.length+1) c4) (ps ++ [x]):=(by simpa using rz);have st5:=st4.JE (.slice (some ⟨g4,0,none⟩) (ps.length+1) c4);have xW:=xV.setCell (p:=⟨gc,5,none⟩) (by show gc < gc+1;omega) (.slice (some ⟨g4,0,none⟩) (ps.length+1) c4);clear q5 qA qB qC fB yP rz xV st3 st4 hown hst hg3 hs3 hg4 xA;go_wp2_with fail;go_roundw;case rel=>exact ⟨j+1,_,ps ++ [x],by omega,by go_num,by have:=HLEN.o;simp;omega,fun s hs=>by
              rcases List.mem_append.1 hs with h | h
              · exact HSZ.o s h
              · rw [List.mem_singleton.1 h];exact hxm,xW,st5.more (by omega)⟩
            case measure=>simp [intOf];omega
        · go_wp2_with fail;refine (aI _ base g (b+10+20 * j) _ _ hst.src (by have:=HB.o;omega) (by omega) (by omega) (by omega)).mono ?_;rintro e w5 ⟨n3,rfl,n0,n1,hs5,hg5⟩;obtain ⟨n4,rfl⟩:=Int.eq_ofNat_of_zero_le (show 0≤n3 by omega);have st5:=hst.step hs5 hg5;have xV:=cO.only hown hg5 (by have:=hst.h1;have:=hst.h2;have:=hst.h3;omega);clear hs5 hg5 hst hown;go_wp2_with fail;have hvp:∀ r,vp.ownBlock=some r→r < w5.heap.size:=fun r hr=>(World.ownsRow.lt xV r hr).2;have HLP:=Hd (show ps.length≤2 by have:=HLEN.o;omega);have st6:=st5.more (b' :=b+60) (by omega);have hg5:gc < w5.heap.size:=st5.cb.1.lt;clear HLEN st5;go_loopw [10] (fun i wr=>∃ (k:Nat) (va:Value) (gs:List ByteArray),i= .int .i64 (k:Int)∧gs.length+k≤4∧(∀ s∈gs,s.size≤4)∧cO wr w5.heap.size va gs∧cO wr (gc+1) vp ps∧w5.heap.size≤wr.heap.size∧gM w wr base g (b+60+gs.length) rc gc z a2 vp va) (fun i _=>(intOf i).toNat);case atStart=>exact ⟨n4,_, [],rfl,by simp;omega,by simp,cO.nil _ _,xV,Nat.le_refl _,by simpa using st6⟩
          case round=>
            obtain ⟨i,va,gs,rfl,hlen,hsz,hown,xX,hw5,hst⟩:=hrel;have HSG:=Hd hsz;clear st6 xV hsz;by_cases hi:0 < i
            · have hi1:(0:Int) < (i:Int):=(by omega);have q6:wr.cell? ⟨gc,6,none⟩=some va:=hst.cb.1.cell 6;have qW:(wr.alloc (.cells #[.string ⟨#[97]⟩, .string ⟨#[47,97]⟩, .string ⟨#[98,47,99]⟩, .string ⟨#[104,111,115,116]⟩, .string ⟨#[]⟩, .string ⟨#[46,46,47,98]⟩, .string ⟨#[47]⟩, .string ⟨#[120,32,121]⟩] 9)).cell? ⟨gc,6,none⟩=some va:=(hst.alloc _).cb.1.cell 6;have hgc:gc < wr.heap.size:=hst.cb.1.lt;have hgl:g < wr.heap.size:=dh hst.src;go_wp2_with fail
              go_region_law
                (first
                  | (go_simp;go_at_call 18;refine (iQ _ base g wr.heap.size (b+60+gs.length) 8 4 _ 9 (0,0) (by exact (hst.src.alloc (.cells #[.string ⟨#[97]⟩, .string ⟨#[47,97]⟩, .string ⟨#[98,47,99]⟩, .string ⟨#[104,111,115,116]⟩, .string ⟨#[]⟩, .string ⟨#[46,46,47,98]⟩, .string ⟨#[47]⟩, .string ⟨#[120,32,121]⟩] 9)).drew) (by have:=HB.o;omega) (by exact heap_alloc_new wr (.cells #[.string ⟨#[97]⟩, .string ⟨#[47,97]⟩, .string ⟨#[98,47,99]⟩, .string ⟨#[104,111,115,116]⟩, .string ⟨#[]⟩, .string ⟨#[46,46,47,98]⟩, .string ⟨#[47]⟩, .string ⟨#[120,32,121]⟩] 9)) (by omega) rfl (by omega) (by omega) rfl).mono ?_;rintro e w3 ⟨x,rfl,hxm,hs3,hg3⟩;have st3:=(hst.alloc (.cells #[.string ⟨#[97]⟩, .string ⟨#[47,97]⟩, .string ⟨#[98,47,99]⟩, .string ⟨#[104,111,115,116]⟩, .string ⟨#[]⟩, .string ⟨#[46,46,47,98]⟩, .string ⟨#[47]⟩, .string ⟨#[120,32,121]⟩] 9)).drew.step hs3 hg3;have yP:=cO.only (w:=(wr.alloc (.cells #[.string ⟨#[97]⟩, .string ⟨#[47,97]⟩, .string ⟨#[98,47,99]⟩, .string ⟨#[104,111,115,116]⟩, .string ⟨#[]⟩, .string ⟨#[46,46,47,98]⟩, .string ⟨#[47]⟩, .string ⟨#[120,32,121]⟩] 9)).drew) (hown.alloc _) hg3 (by have:=hst.h1;have:=hst.h2;have:=hst.h3;omega);have Dj:=cO.only (w:=(wr.alloc (.cells #[.string ⟨#[97]⟩, .string ⟨#[47,97]⟩, .string ⟨#[98,47,99]⟩, .string ⟨#[104,111,115,116]⟩, .string ⟨#[]⟩, .string ⟨#[46,46,47,98]⟩, .string ⟨#[47]⟩, .string ⟨#[120,32,121]⟩] 9)).drew) (xX.alloc _) hg3 (by have:=hst.h1;have:=hst.h2;have:=hst.h3;omega);have qA:w3.cell? ⟨gc,6,none⟩=some va:=st3.cb.1.cell 6;have qC:=(st3.alloc (.cells #[.string x] 9)).cb.1.cell 6;go_simp)
                  | (refine gK (by rfl) (.tmp 90) (.tmp 94) (by rfl) w5.heap.size va gs (by rfl) (by exact yP.alloc _) (w3.heap.size+1) (some ⟨w3.heap.size,0,none⟩) 1 1 [x] (by rfl) rfl (by exact l8 w3 x 9) (by simp;omega) (by have h3:=hg3.size;simp at h3 ⊢;omega) ?_;intro v4 w4 rz hg4 xA;obtain ⟨g4,c4,hv4⟩:=Joins.ownsRow_form rz.o (by simp);subst hv4;have st4:=(st3.alloc (.cells #[.string x] 9)).grown hg4 (fun r hr=>by have:=yP.ge r hr;omega);have Dk:=(Dj.alloc (.cells #[.string x] 9)).far hg4 (fun r hr e=>by have:=hvp r hr;have:=yP.ge r e;omega);have qB:w4.cell? ⟨gc,6,none⟩=some va:=st4.cb.1.cell 6;have fB:=st4.cb.1.free 6))
              all_goals
                have xV:cO w4 w5.heap.size (.slice (some ⟨g4,0,none⟩) (gs.length+1) c4) (gs ++ [x]):=(by simpa using rz);have st5:=st4.JF (.slice (some ⟨g4,0,none⟩) (gs.length+1) c4);have xW:=xV.setCell (p:=⟨gc,6,none⟩) (by show gc < w5.heap.size;omega) (.slice (some ⟨g4,0,none⟩) (gs.length+1) c4);have pK:=Dk.setCell (p:=⟨gc,6,none⟩) (by show gc < gc+1;omega) (.slice (some ⟨g4,0,none⟩) (gs.length+1) c4);have hw6:w5.heap.size≤(w4.setCell ⟨gc,6,none⟩ (.slice (some ⟨g4,0,none⟩) (gs.length+1) c4)).heap.size:=by
                  have h3:=hg3.size;have h4:=hg4.size;simp at h3 h4 ⊢;omega
                clear q6 qW qA qB qC fB yP rz xV Dj Dk st3 st4 hown xX hst hg3 hs3 hg4 xA;go_wp2_with fail;go_roundw;case rel=>exact ⟨i - 1,_,gs ++ [x],by go_num,by simp;omega,fun s hs=>by
                  rcases List.mem_append.1 hs with h | h
                  · exact HSG.o s h
                  · rw [List.mem_singleton.1 h];exact hxm,xW,pK,hw6,st5.more (by simp;omega)⟩
                case measure=>simp [intOf];omega
            · go_wp2_with fail;refine (iP _ base g (b+60+gs.length) _ hst.src (by have:=HB.o;omega) (by omega) (by omega)).mono ?_;rintro e w6 ⟨x,rfl,x0,x1,hs6,hg6⟩;have st6:=hst.step hs6 hg6;have xW:=cO.only hown hg6 (by have:=hst.h1;have:=hst.h2;have:=hst.h3;omega);have pK:=cO.only xX hg6 (by have:=hst.h1;have:=hst.h2;have:=hst.h3;omega);clear hs6 hg6 hst hown xX;obtain ⟨Ap,np,cp,rfl⟩:=slice_form pK;obtain ⟨Ag,ng,cg,rfl⟩:=slice_form xW;go_upto_if 99 with fail;go_cut [] (fun wx=>∃ (z3:Int) (a3:Nat→Int), -1≤z3∧z3≤33∧cO wx w5.heap.size (.slice Ag ng cg) gs∧cO wx (gc+1) (.slice Ap np cp) ps∧gM w wx base g (b+100) rc gc z3 a3 (.slice Ap np cp) (.slice Ag ng cg));case first=>
                by_cases h39:x=39
                · have t39:(x == 39)=true:=(by simpa using h39);clear h39;go_wp2_with fail;refine (iP _ base g (b+60+gs.length+1) _ st6.src (by have:=HB.o;omega) (by omega) (by omega)).mono ?_;rintro e w7 ⟨y,rfl,y0,y1,hs7,hg7⟩;have st7:=st6.step hs7 hg7;have Im:=cO.only xW hg7 (by have:=st6.h1;have:=st6.h2;have:=st6.h3;omega);have Dl:=cO.only pK hg7 (by have:=st6.h1;have:=st6.h2;have:=st6.h3;omega);clear hs7 hg7 st6 xW pK;go_wp2_with fail;refine (aI _ base g (b+60+gs.length+1+1) _ _ st7.src (by have:=HB.o;omega) (by omega) (by omega) (by omega)).mono ?_;rintro e w8 ⟨z2,rfl,z20,z21,hs8,hg8⟩;have st8:=st7.step hs8 hg8;have Io:=cO.only Im hg8 (by have:=st7.h1;have:=st7.h2;have:=st7.h3;omega);have Dn:=cO.only Dl hg8 (by have:=st7.h1;have:=st7.h2;have:=st7.h3;omega);clear hs8 hg8 st7 Im Dl;have stE:=(st8.kP 3 (by omega) y y0 (by omega)).JG z2;have JH:=(Io.setCell (p:=⟨gc,1+3,none⟩) (by show gc < w5.heap.size;omega) (.int .i64 y)).setCell (p:=⟨gc,0,none⟩) (by show gc < w5.heap.size;omega) (.int .i64 z2);have Gw:=(Dn.setCell (p:=⟨gc,1+3,none⟩) (by show gc < gc+1;omega) (.int .i64 y)).setCell (p:=⟨gc,0,none⟩) (by show gc < gc+1;omega) (.int .i64 z2);have d0:=st8.cb.1.cell 0;have e0:=st8.cb.1.free 0;have d4:=st8.cb.1.cell 4;have e4:=st8.cb.1.free 4;clear st8 Io Dn;go_wp2_with fail;go_meet;exact ⟨z2,_,by omega,by omega,JH,Gw,stE.more (by omega)⟩
                · have t39:(x == 39)=false:=(by simpa using h39);clear h39;go_wp2_with fail;go_meet;exact ⟨z,_,by omega,by omega,xW,pK,st6.more (by omega)⟩
              case rest=>
                obtain ⟨z3,a3,Kh,Ki,JI,Gx,stF⟩:=hcut;clear st6 xW pK;have r0:=stF.rb.cell 0;have fr0:=stF.rb.free 0;have c0:=stF.cb.1.cell 0;have r1:=stF.rb.cell 1;have fr1:=stF.rb.free 1;have c1:=stF.cb.1.cell 1;have r2:=stF.rb.cell 2;have fr2:=stF.rb.free 2;have c2:=stF.cb.1.cell 2;have r3:=stF.rb.cell 3;have fr3:=stF.rb.free 3;have c3:=stF.cb.1.cell 3;have r4:=stF.rb.cell 4;have fr4:=stF.rb.free 4;have c4:=stF.cb.1.cell 4;have r5:=stF.rb.cell 5;have fr5:=stF.rb.free 5;have c5:=stF.cb.1.cell 5;have r6:=stF.rb.cell 6;have fr6:=stF.rb.free 6;have c6:=stF.cb.1.cell 6;go_wp2_with fail;refine bodyPost_ret (xU Tryz.func12 rfl _ _ rc _ rfl (((((((stF.rb.put 0 (.int .i64 z3)).put 1 (.int .i64 (a3 0))).put 2 (.int .i64 (a3 1))).put 3 (.int .i64 (a3 2))).put 4 (.int .i64 (a3 3))).put 5 (.slice Ap np cp)).put 6 (.slice Ag ng cg)) rfl) rfl ?_;exact ⟨z3,a3,_,_,ps,gs,rfl,by omega,stF.cb.2,HLP.o,by omega,HSZ.o,HSG.o,(((((((Gx.setCell (p:=⟨rc,0,none⟩) (by show rc < gc+1;omega) (.int .i64 z3)).setCell (p:=⟨rc,1,none⟩) (by show rc < gc+1;omega) (.int .i64 (a3 0))).setCell (p:=⟨rc,2,none⟩) (by show rc < gc+1;omega) (.int .i64 (a3 1))).setCell (p:=⟨rc,3,none⟩) (by show rc < gc+1;omega) (.int .i64 (a3 2))).setCell (p:=⟨rc,4,none⟩) (by show rc < gc+1;omega) (.int .i64 (a3 3))).setCell (p:=⟨rc,5,none⟩) (by show rc < gc+1;omega) (.slice Ap np cp)).setCell (p:=⟨rc,6,none⟩) (by show rc < gc+1;omega) (.slice Ag ng cg)).mono (by have:=stF.h1;have:=stF.h2;omega),(((((((JI.setCell (p:=⟨rc,0,none⟩) (by show rc < w5.heap.size;omega) (.int .i64 z3)).setCell (p:=⟨rc,1,none⟩) (by show rc < w5.heap.size;omega) (.int .i64 (a3 0))).setCell (p:=⟨rc,2,none⟩) (by show rc < w5.heap.size;omega) (.int .i64 (a3 1))).setCell (p:=⟨rc,3,none⟩) (by show rc < w5.heap.size;omega) (.int .i64 (a3 2))).setCell (p:=⟨rc,4,none⟩) (by show rc < w5.heap.size;omega) (.int .i64 (a3 3))).setCell (p:=⟨rc,5,none⟩) (by show rc < w5.heap.size;omega) (.slice Ap np cp)).setCell (p:=⟨rc,6,none⟩) (by show rc < w5.heap.size;omega) (.slice Ag ng cg)).mono (by have:=stF.h1;have:=stF.h2;omega),(((((((stF.src.setCell (p:=⟨rc,0,none⟩) (by show base≤rc;omega) (by show rc≠g;omega) (.int .i64 z3)).setCell (p:=⟨rc,1,none⟩) (by show base≤rc;omega) (by show rc≠g;omega) (.int .i64 (a3 0))).setCell (p:=⟨rc,2,none⟩) (by show base≤rc;omega) (by show rc≠g;omega) (.int .i64 (a3 1))).setCell (p:=⟨rc,3,none⟩) (by show base≤rc;omega) (by show rc≠g;omega) (.int .i64 (a3 2))).setCell (p:=⟨rc,4,none⟩) (by show base≤rc;omega) (by show rc≠g;omega) (.int .i64 (a3 3))).setCell (p:=⟨rc,5,none⟩) (by show base≤rc;omega) (by show rc≠g;omega) (.slice Ap np cp)).setCell (p:=⟨rc,6,none⟩) (by show base≤rc;omega) (by show rc≠g;omega) (.slice Ag ng cg)).more (by omega),(aB (aB (aB (aB (aB (aB (aB stF.only (p:=⟨rc,0,none⟩) (.inr stF.h1) (.int .i64 z3)) (p:=⟨rc,1,none⟩) (.inr stF.h1) (.int .i64 (a3 0))) (p:=⟨rc,2,none⟩) (.inr stF.h1) (.int .i64 (a3 1))) (p:=⟨rc,3,none⟩) (.inr stF.h1) (.int .i64 (a3 2))) (p:=⟨rc,4,none⟩) (.inr stF.h1) (.int .i64 (a3 3))) (p:=⟨rc,5,none⟩) (.inr stF.h1) (.slice Ap np cp)) (p:=⟨rc,6,none⟩) (.inr stF.h1) (.slice Ag ng cg))⟩
end Go.Proofs.YtnpaoepkpdileaaGreatDoor
namespace Go.Proofs.YtnpaoepkpdileaaGreatDoor
open Go.RowKit
def cAw:Ctx:=⟨1,fun j=>if j=2 then 1000 else 0,fun _=>0,0,0,⟨#[]⟩,⟨#[]⟩⟩
def slZ:Sl:=⟨none,0,0⟩
def rAw:cZ:=⟨0,0,slZ,false,0,slZ,slZ⟩
theorem AJ:nW 3 6 1000 ⟨#[]⟩ 0=⟨#[117,105,100,62,61,49,48,48,48]⟩:=by decide+kernel
theorem Dp:ny 3 6 1000 ⟨#[]⟩ 0=0:=by decide+kernel
theorem Dq:gW cAw [] 3 6 1000 ⟨#[]⟩ 0=true:=by decide+kernel
theorem Dr:gW cAw [] 15 2 5 ⟨#[]⟩ 0=false:=by decide+kernel
def awC:Array Value:=#[.int .i64 1, .int .i64 0, .int .i64 0, .int .i64 1000, .int .i64 0, .int .i64 0, .int .i64 0, .int .i64 0, .int .i64 0, .int .i64 0, .int .i64 0, .string ⟨#[]⟩, .string ⟨#[]⟩, .slice none 0 0, .bool false, .int .i64 0, .int .i64 0, .int .i64 0, .int .i64 0, .int .i64 0, .slice none 0 0, .slice none 0 0, .int .i64 0, .slice none 0 0, .int .i64 0]
theorem AL:awC=#[.int .i64 1, .int .i64 0, .int .i64 0, .int .i64 1000, .int .i64 0, .int .i64 0, .int .i64 0, .int .i64 0, .int .i64 0, .int .i64 0, .int .i64 0, .string ⟨#[]⟩, .string ⟨#[]⟩, .slice none 0 0, .bool false, .int .i64 0, .int .i64 0, .int .i64 0, .int .i64 0, .int .i64 0, .slice none 0 0, .slice none 0 0, .int .i64 0, .slice none 0 0, .int .i64 0]:=rfl
theorem Dt:awC.all (·.oneCell')=true:=by decide+kernel
theorem Du:awC=dR cAw rAw (.slice none 0 0):=rfl
abbrev dD:Array Value:=#[.int .i64 0, .int .i64 0, .int .i64 0, .int .i64 0, .int .i64 0, .int .i64 0, .int .i64 0, .int .i64 0, .int .i64 0, .int .i64 0, .int .i64 0, .string ⟨#[]⟩, .string ⟨#[]⟩, .slice none 0 0, .bool false, .int .i64 0, .int .i64 0, .int .i64 0, .int .i64 0, .int .i64 0, .slice none 0 0, .slice none 0 0, .int .i64 0, .slice none 0 0, .int .i64 0]
theorem Gy:(Tryz.prog.info? 36).map (·.size)=some awC.size:=by show _=some 25;kernel_rfl
theorem Dw:dD.size=awC.size:=rfl
attribute [local irreducible] awC nW ny gW dR
theorem AO (w:World) (hn:FNames w) (ho:FOps w) (ht:Tab w) (hp:Pow w):Calls Tryz.prog 10 #[] w fun e w' =>e= .returned (.bool true)∧Below w.heap.size w w' :=by
 have hal:Below w.heap.size w ((w.alloc (.cells dD 36)).setRow w.heap.size awC):=ai ((Below.refl _ _).alloc (Nat.le_refl _) _) (Nat.le_refl _) _;have hC:Blk ((w.alloc (.cells dD 36)).setRow w.heap.size awC) w.heap.size 36 (dR cAw rAw (.slice none 0 0)):=by rw [← Du];exact (Blk.new w _ _).row _
 have HF:=Hd (xx 3 6 1000 ⟨#[]⟩ 0 ⟨by omega,by omega⟩ (by decide) ((w.alloc (.cells dD 36)).setRow w.heap.size awC) (hn.below hal) (ho.below hal) (ht.below hal (Nat.le_refl _)) (hp.below hal (Nat.le_refl _)));rw [AJ,Dp] at HF;have HV1:=Hd (fun W=>uZ cAw rAw none 0 0 [] rfl (by omega) 3 6 1000 ⟨#[]⟩ 0 (by decide) W bG.nil);have HV2:=Hd (fun W=>uZ cAw rAw none 0 0 [] rfl (by omega) 15 2 5 ⟨#[]⟩ 0 (by decide) W bG.nil);simp only [List.map_nil] at HV1 HV2;rw [Dq] at HV1;rw [Dr] at HV2;have HC:=Hd hC;have HAL:=Hd hal;clear hn ho ht hp hal hC;go_in;have HZ:=Hd (Blk.new w dD 36);go_wp2_with ((with_reducible refine ae ?_ 36 (.tmp 1) (.tmp 5) ?_ HZ.o awC ?_ ?_ ?_ ?_ ?_ ?_);(iterate 3 rfl);(exact congrArg Value.agg AL.symm);(exact Gy);(exact Dw);(exact Dt));refine HF.o.mono ?_;rintro e w1 ⟨rfl,hb1⟩;have HC1:=Hd (HC.o.below hb1);have HB1:=Hd (HAL.o.trans (hb1.mono HAL.o.size));clear hb1;go_wp2_with ((with_reducible refine dC ?_ 36 (.tmp 1) ?_ HC1.o ?_ _ Tryz.underlying36 ?_ ?_ ?_);(iterate 4 rfl);exact dY _ _ _);refine (HV1.o _).mono ?_;rintro e w2 ⟨rfl,hb2⟩;have HC2:=Hd (HC1.o.below hb2);have HB2:=Hd (aa HB1.o hb2);clear hb2;go_wp2_with ((with_reducible refine dC ?_ 36 (.tmp 1) ?_ HC2.o ?_ _ Tryz.underlying36 ?_ ?_ ?_);(iterate 4 rfl);exact dY _ _ _);refine (HV2.o _).mono ?_;rintro e w3 ⟨rfl,hb3⟩;have HB3:=Hd (aa HB2.o hb3);clear hb3;go_wp2_with fail;go_ret;exact ⟨rfl,HB3.o⟩
end Go.Proofs.YtnpaoepkpdileaaGreatDoor
namespace Go.Proofs.YtnpaoepkpdileaaGreatDoor
open Go.RowKit
theorem AP (c:Ctx) (r:cZ) (A:Option Addr) (n cp:Nat):(dR c r (.slice A n cp)).all (·.oneCell')=true:=by simp [dR,Value.oneCell']
def Ew (w:World) (base:Nat) (v:Value) (L:List (Itm×aS)):Prop:=w.ownsRow base 77 13 v L.length (L.flatMap fun p=>(aG p.1 p.2).toList)
theorem mW (i:Itm) (r:aS):(aG i r).toList.length=13:=rfl
theorem fE:∀ (L:List (Itm×aS)) (k:Nat) (hk:k < L.length) (j:Nat),j < 13→(L.flatMap fun p=>(aG p.1 p.2).toList)[k * 13+j]? =(aG (L[k]'hk).1 (L[k]'hk).2)[j]?
 | [],k,hk,_,_=>by simp at hk
 | p :: L,0,_,j,hj=>by
  rw [List.flatMap_cons,List.getElem?_append_left (by rw [mW];omega)];simp
 | p :: L,k+1,hk,j,hj=>by
  have ih:=fE L k (by simp at hk;omega) j hj;rw [List.flatMap_cons,List.getElem?_append_right (by rw [mW];omega),mW,show (k+1) * 13+j - 13=k * 13+j by omega,ih];simp
theorem Dx (g a b:Nat):((⟨g,0,none⟩:Addr).add a).add b=⟨g,a+b,none⟩:=by
 unfold Addr.add;split
 · split
   · subst_vars;rfl
   · subst_vars;simp
 · split
   · subst_vars;simp
   · simp
theorem add_zero (g n:Nat):(⟨g,0,none⟩:Addr).add n=⟨g,n,none⟩:=by
 unfold Addr.add;split
 · subst_vars;rfl
 · simp
theorem Ew.items {w:World} {base:Nat} {v:Value} {L:List (Itm×aS)} (h:Ew w base v L):∃ A c,v= .slice A L.length c∧bG w w.heap.size A L:=by
 rcases Joins.ownsRow_forms h with ⟨rfl,h0⟩ | ⟨g,cap,rfl⟩
 · have:L= []:=List.eq_nil_of_length_eq_zero h0;subst this;exact ⟨none,0,rfl,bG.nil⟩
 · refine ⟨_,cap,rfl,fun k hk=>⟨_,rfl,(World.ownsRow.lt h g rfl).2,fun j hj=>?_⟩⟩;have hf:=fE L k hk j hj;have hs:j < (aG (L[k]'hk).1 (L[k]'hk).2).size:=hj;rw [Array.getElem?_eq_getElem hs] at hf ⊢;have hc:=World.ownsRow.cells h (g:=g) rfl (k * 13+j) _ hf;rw [add_zero] at hc;rw [Dx];exact hc
structure K1 (w wr:World) (base g:Nat) (b:Int) (gc:Nat) (c:Ctx) (r:cZ) (it:Value):Prop where
 only:w.grownBy wr (some g)
 src:aP wr base g b
 rb:Blk wr w.heap.size 36 dD
 cb:Blk wr gc 36 (dR c r it)
 h2:w.heap.size < gc
 h3:g < w.heap.size
 h4:base≤w.heap.size
section
variable {w wr w' :World} {base g gc:Nat} {b b' :Int} {c:Ctx} {r:cZ} {it:Value}
end
attribute [local irreducible] dR aG
end Go.Proofs.YtnpaoepkpdileaaGreatDoor
namespace Go.Proofs.YtnpaoepkpdileaaGreatDoor
open Go.RowKit
theorem l9 {w:World} {g:Nat} {t:TypeId} {cs:Array Value} (h:Blk w g t cs):Blk w.drew g t cs:=h
theorem pQ {c:Ctx} {fd op nu:Int} {tx:ByteArray} {ot:Int} {i:Itm} (h:bD fd=true):cz c fd op nu tx ot i=(((if fd=14 then c.comm else c.exe).toList == tx.toList) == decide (op=1)):=by
 unfold cz;rw [if_pos h]
theorem rP {c:Ctx} {fd op nu:Int} {tx:ByteArray} {ot:Int} {i:Itm} (h:bD fd=false):cz c fd op nu tx ot i=zR op (rU c i fd) (if ot=0 then nu else rU c i ot):=by
 unfold cz;rw [if_neg (by rw [h];decide)]
theorem EC (a:Addr) (w:World):(loadVar 3 a).run Tryz.prog w=(load a).run Tryz.prog w:=by
 unfold loadVar;simp [go_sem]
theorem ED (a:Addr) (w:World):(loadVar 9 a).run Tryz.prog w=(load a).run Tryz.prog w:=by
 unfold loadVar;simp [go_sem]
theorem qO {w:World} {g:Nat} {c:Ctx} {r:cZ} {it:Value} (h:cB w g c r it):(loadVar 36 ⟨g,0,none⟩).run Tryz.prog w= .ok (.agg (dR c r it)) w:=run_loadVar_row w g _ _ _ _ _ h Tryz.underlying36 rfl (dY _ _ _)
theorem yR {w:World} {g:Nat} {i:Itm} {r:aS} (h:nX w g i r):(loadVar 77 ⟨g,0,none⟩).run Tryz.prog w= .ok (.agg (aG i r)) w:=run_loadVar_row w g _ _ _ _ _ h Tryz.underlying77 rfl (gB _ _)
attribute [local irreducible] dR aG bD rU zR aj
theorem AU (fd op nu:Int) (tx:ByteArray) (ot:Int) (hx:tx.size≤maxLen) (w:World):Calls Tryz.prog 22 #[kz fd op nu tx ot] w fun e w' =>e= .returned (.bool (bI fd op nu tx ot))∧Below w.heap.size w w' :=by
 obtain ⟨hT,hB⟩:=FP w fd op nu tx ot;have HK:=Hd (fun l W=>zX fd op nu tx ot l hx W);have HT:=Hd hT;have HB:=Hd hB;clear hT hB;go_in;go_wp2_with fail;generalize w.alloc (.cells (bO fd op nu tx ot) 55)=W at *;go_loopw [3] (fun i wr=>∃ k:Nat,k≤5∧i= .int .i64 ((k:Int)+1)∧Hid (qy fd op nu tx ot k=false)∧Below W.heap.size W wr) (fun i _=>7 - (intOf i).toNat);case atStart=>exact ⟨0,by omega,rfl,by unfold qy;rfl,Below.refl _ _⟩
 case round=>
  obtain ⟨k,hk,rfl,hno,hb⟩:=hrel;have HBR:=Hd hb;by_cases hlt:k < 5
  · have HA:=Hd (om fd op nu tx ot k);obtain ⟨q0,q1,q2,q3,q4⟩:=bY (HT.o.below hb);clear hb;go_wp2_with fail;refine (HK.o _ _).mono ?_;rintro e w1 ⟨rfl,hb1⟩;have HB1:=Hd (aa HBR.o hb1);clear hb1 q0 q1 q2 q3 q4;by_cases hc:aj fd op nu tx ot ((k:Int)+1)=0
    · have HS:=Hd (show bI fd op nu tx ot=true by
       rw [← kD];unfold qy;rw [List.any_eq_true];exact ⟨k,by simpa using hlt,by simpa using hc⟩)
      rw [hc];clear hc;go_wp2_with fail;go_ret;exact ⟨bR HS.o.symm,HB.o.trans (HB1.o.mono HB.o.size)⟩
    · have bc:(aj fd op nu tx ot ((k:Int)+1) == 0)=false:=(by simpa using hc);have HN:=Hd (show qy fd op nu tx ot (k+1)=false by rw [HA.o,hno.o,bc];rfl);clear hc;go_wp2_with fail;go_roundw;case rel=>exact ⟨k+1,by omega,by go_num,HN,HB1.o⟩
      case measure=>simp [intOf];omega
  · have hk5:k=5:=(by omega);subst hk5;have HS:=Hd (show bI fd op nu tx ot=false by rw [← kD];exact hno.o);clear hb;go_wp2_with fail;go_ret;exact ⟨bR HS.o.symm,HB.o.trans (HBR.o.mono HB.o.size)⟩
attribute [-go_sem] loadVar
attribute [local go_sem] EC ED
theorem GA (c:Ctx) (r:cZ) (it:Value) (fd op nu:Int) (tx:ByteArray) (ot:Int) (i:Itm) (ir:aS) (hf:1≤fd∧fd≤22) (ho:1≤op∧op≤8) (hot:ot=0∨((1≤ot∧ot≤22)∧ot≠13∧ot≠14)) (w:World):
   Calls Tryz.prog 25 #[kz fd op nu tx ot,rV c r it,mJ i ir] w fun e w' =>e= .returned (.bool (cz c fd op nu tx ot i))∧Below w.heap.size w w' :=by
 obtain ⟨hT,hC,hI,hB⟩:=Hu w fd op nu tx ot c r it i ir;have HT:=Hd hT;have HC:=Hd hC;have HI:=Hd hI;have HB:=Hd hB;have CM:=Hd (fun a b W=>FO op a b ho W);have q0:=hT.c0;have q1:=hT.c1;have q2:=hT.c2;have q3:=hT.c3;have q4:=hT.c4;have qc:=hC.comm;have qe:=hC.exe;clear hT hC hI hB ho;cases ht:bD fd
 · have HE:=Hd (rP (c:=c) (op:=op) (nu:=nu) (tx:=tx) (ot:=ot) (i:=i) ht);have HV:=Hd (fun W=>uK fd W);obtain ⟨n13,n14⟩:=mK ht;have CF:=Hd (fun W=>qx c r it i ir fd hf n13 n14 W);rw [ht] at HV;clear hf ht n13 n14 qc qe;go_in;go_wp2_with fail;generalize ((w.alloc (.cells (bO fd op nu tx ot) 55)).alloc (.cells (dR c r it) 36)).alloc (.cells (aG i ir) 77)=W at *;refine (HV.o _).mono ?_;rintro e w1 ⟨rfl,rfl⟩;by_cases h0:ot=0
   · subst h0;rw [if_pos rfl] at HE;go_wp2_with fail;have hlC:=qO (show cB W.drew (w.heap.size+1) c r it from HC.o);have hlI:=yR (show nX W.drew (w.heap.size+1+1) i ir from HI.o)
     go_region_law (first
      | (go_simp;go_at_call 44;refine (CF.o _).mono ?_;rintro e w5 ⟨rfl,hb5⟩;have HB5:=Hd (HB.o.drew.trans (hb5.mono HB.o.drew.size));have k1:=(show dH w5 w.heap.size fd op nu tx _ from Blk.below (l9 HT.o) hb5).c1;go_simp)
      | (go_simp;go_at_call 45;refine (CM.o _ _ _).mono ?_;rintro e w6 ⟨rfl,rfl⟩;go_simp))
     all_goals
      go_wp2_with fail;go_ret;exact ⟨bR HE.o.symm,HB5.o⟩
   · obtain ⟨o1,o2,o3⟩:=hot.resolve_left h0;have CO:=Hd (fun W=>qx c r it i ir ot o1 o2 o3 W);have b0:(ot != 0)=true:=(by simpa using h0);rw [if_neg h0] at HE;clear hot o1 o2 o3 h0;go_wp2_with (first | ((with_reducible refine ax ?_ 36 (.tmp 4) ?_ HC.o ?_ _ Tryz.underlying36 ?_ ?_ ?_);(iterate 4 rfl);exact dY _ _ _) | ((with_reducible refine ax ?_ 77 (.tmp 5) ?_ HI.o ?_ _ Tryz.underlying77 ?_ ?_ ?_);(iterate 4 rfl);exact gB _ _));refine (CO.o _).mono ?_;rintro e w2 ⟨rfl,hb⟩;have hT2:dH w2 w.heap.size fd op nu tx ot:=HT.o.below hb;have HC2:=Hd (show cB w2 (w.heap.size+1) c r it from HC.o.below hb);have HI2:=Hd (show nX w2 (w.heap.size+1+1) i ir from HI.o.below hb);have HB2:=Hd (HB.o.trans (hb.mono HB.o.size));clear q0 q1 q2 q3 q4 hb HT HC HI HB;have HT:=Hd hT2;have HC:=HC2;have HI:=HI2;have HB:=HB2;have q0:=hT2.c0;have q1:=hT2.c1;clear hT2 HC2 HI2 HB2;go_wp2_with fail;have hlC:=qO (show cB w2.drew (w.heap.size+1) c r it from HC.o);have hlI:=yR (show nX w2.drew (w.heap.size+1+1) i ir from HI.o)
     go_region_law (first
      | (go_simp;go_at_call 44;refine (CF.o _).mono ?_;rintro e w5 ⟨rfl,hb5⟩;have HB5:=Hd (HB.o.drew.trans (hb5.mono HB.o.drew.size));have k1:=(show dH w5 w.heap.size fd op nu tx _ from Blk.below (l9 HT.o) hb5).c1;go_simp)
      | (go_simp;go_at_call 45;refine (CM.o _ _ _).mono ?_;rintro e w6 ⟨rfl,rfl⟩;go_simp))
     all_goals
      go_wp2_with fail;go_ret;exact ⟨bR HE.o.symm,HB5.o⟩
 · have HV:=Hd (fun W=>uK fd W);rw [ht] at HV;have HE:=Hd (pQ (c:=c) (op:=op) (nu:=nu) (tx:=tx) (ot:=ot) (i:=i) ht);have hv:=lM ht;clear hf hot ht CM;rcases hv with rfl | rfl;all_goals
     go_in;go_wp2_with fail;refine (HV.o _).mono ?_;rintro e w1 ⟨rfl,rfl⟩;go_wp2_with fail;go_ret;exact ⟨bR (by rw [HE.o,deq];simp),HB.o⟩
end Go.Proofs.YtnpaoepkpdileaaGreatDoor
namespace Go.Proofs.YtnpaoepkpdileaaGreatDoor
open Go.RowKit
theorem wm {P:Program} {w:World} {a:Addr} {ty:TypeId} {cs:Array Value} {d:TypeDesc} (h:∀ j v,cs.toList[j]? =some v→w.cell? (a.add j)=some v)
  (hu:P.underlying ty=some d) (hd:(match d with | .struct _ | .array _ _=>true | _=>false)=true) (hi:(P.info? ty).map (·.size)=some cs.size):
  (loadVar ty a).run P w= .ok (.agg cs) w:=by
 have hl:(loadCells a cs.toList.length).run P w= .ok cs.toList.toArray w:=run_loadCells_list (P:=P) w a cs.toList h;cases hq:P.info? ty with
 | none=>simp [hq] at hi
 | some i=>
  have hs:i.size=cs.size:=by simpa [hq] using hi
  have hagg:(isAgg ty).run P w= .ok true w:=by
   unfold isAgg;rw [Sem.run_bind,run_underlying hu w];cases d <;> simp_all
  simp only [Array.length_toList,Array.toArray_toList] at hl;simp [loadVar,Sem.run_bind,hagg,sizeOf,typeInfo,hq,hs,hl]
theorem mY {w:World} {g:Nat} {fd op nu:Int} {tx:ByteArray} {ot:Int} (h:dH w g fd op nu tx ot):(loadVar 55 ⟨g,0,none⟩).run Tryz.prog w= .ok (.agg (bO fd op nu tx ot)) w:=run_loadVar_row w g _ _ _ _ _ h Tryz.underlying55 rfl (pq _ _ _ _ _)
theorem AV {w:World} {a:Addr} {i:Itm} {r:aS} (h:∀ j,j < 13→w.cell? (a.add j)=(aG i r)[j]?):(loadVar 77 a).run Tryz.prog w= .ok (.agg (aG i r)) w:=
 wm (fun j v hv=>by
  have hj:j < 13:=by
   rcases Nat.lt_or_ge j 13 with hj | hj
   · exact hj
   · rw [List.getElem?_eq_none (by show 13≤j;exact hj)] at hv;cases hv
  rw [h j hj];simpa using hv) Tryz.underlying77 rfl (gB _ _)
theorem AX (x y:Int):(Tryz.prog.info? 26).map (·.size)=some (#[Value.int .i64 x, .int .i64 y]:Array Value).size:=by show _=some 2;kernel_rfl
theorem AY {w:World} {b o:Nat} {x y:Int} (h5:w.cell? ⟨b,o,none⟩=some (.int .i64 x)) (h6:w.cell? ⟨b,o+1,none⟩=some (.int .i64 y)):(loadVar 26 ⟨b,o,none⟩).run Tryz.prog w= .ok (.agg #[.int .i64 x, .int .i64 y]) w:=
 wm (fun j v hv=>by
  match j with
  | 0=>simp at hv;subst hv;exact h5
  | 1=>simp at hv;subst hv;exact h6
  | j+2=>simp at hv) Tryz.underlying26 rfl (AX _ _)
theorem GD (a:Addr) (w:World):(loadVar 34 a).run Tryz.prog w=(load a).run Tryz.prog w:=by
 unfold loadVar;simp [go_sem]
theorem GG {wr x:World} {g g2:Nat} {fd op nu:Int} {tx:ByteArray} {ot:Int} {c:Ctx} {r:cZ} {it:Value} {p:Addr} {i:Itm} {ir:aS} (hT:dH wr g fd op nu tx ot) (hC:cB wr g2 c r it) (hcl:∀ j,j < 13→wr.cell? (p.add j)=(aG i ir)[j]?) (hp:p.block < wr.heap.size) (hb:Below wr.heap.size wr x):
  Below wr.heap.size wr x∧(loadVar 55 ⟨g,0,none⟩).run Tryz.prog x= .ok (.agg (bO fd op nu tx ot)) x∧(loadVar 36 ⟨g2,0,none⟩).run Tryz.prog x= .ok (.agg (dR c r it)) x∧(loadVar 77 p).run Tryz.prog x= .ok (.agg (aG i ir)) x∧(loadVar 26 ⟨p.block,p.off+5,none⟩).run Tryz.prog x= .ok (.agg #[.int .i64 i.dev, .int .i64 i.ino]) x∧x.cell? ⟨g2,23,none⟩=some it:=by
 have hcx:∀ j,j < 13→x.cell? (p.add j)=(aG i ir)[j]? :=fun j hj=>(hb.cell (by rw [add_block];exact hp)).trans (hcl j hj);exact ⟨hb,mY (hT.below hb),qO (hC.below hb),AV hcx,AY (hcx 5 (by omega)) (hcx 6 (by omega)),(show cB x g2 c r it from hC.below hb).items⟩
theorem oN (w:World):Below w.heap.size w w.drew:=(Below.refl _ _).drew
attribute [local irreducible] dR bD dx aj qy bI cz gV eU
attribute [-go_sem] loadVar
attribute [local go_sem] EC ED GD
theorem DJ (c:Ctx) (r:cZ) (A:Option Addr) (n cp:Nat) (L:List (Itm×aS)) (hn:n=L.length) (hlen:n≤1000000) (fd op nu:Int) (tx:ByteArray) (ot:Int) (hx:tx.size≤maxLen) (w:World) (hL:bG w w.heap.size A L):
  Calls Tryz.prog 9 #[kz fd op nu tx ot,rV c r (.slice A n cp)] w fun e w' =>e= .returned (.bool (gV c (L.map (·.1)) fd op nu tx ot))∧Below w.heap.size w w' :=by
 obtain ⟨hT,hC,hB,hS⟩:=CE w fd op nu tx ot c r (.slice A n cp);have HK:=Hd (fun W=>AU fd op nu tx ot hx W);have HLN:=Hd hn;have HE1:=Hd (show (bI fd op nu tx ot=false∨eU c fd=false∨(ot≠0∧eU c ot=false))→gV c (L.map (·.1)) fd op nu tx ot=false from fun h=>by unfold gV;rw [if_pos h]);have HE2:=Hd (show ¬ (bI fd op nu tx ot=false∨eU c fd=false∨(ot≠0∧eU c ot=false))→(dx fd=false∧dx ot=false)→gV c (L.map (·.1)) fd op nu tx ot=cz c fd op nu tx ot Itm.none from fun h k=>by unfold gV;rw [if_neg h,if_pos k]);have HE3:=Hd (show ¬ (bI fd op nu tx ot=false∨eU c fd=false∨(ot≠0∧eU c ot=false))→¬ (dx fd=false∧dx ot=false)→gV c (L.map (·.1)) fd op nu tx ot=(L.map (·.1)).any fun i=>eQ i && cz c fd op nu tx ot i from fun h k=>by unfold gV;rw [if_neg h,if_neg k]);have HHF:=Hd (fun W=>Cz c r (.slice A n cp) fd W);have HHO:=Hd (fun W=>Cz c r (.slice A n cp) ot W);have HC:=Hd hC;have HB:=Hd hB;have HLI:=Hd hL;have IB:=mY hT;clear hC hB hL hn hS;go_in;go_upto_region 1 with fail;generalize (w.alloc (.cells (bO fd op nu tx ot) 55)).alloc (.cells (dR c r (.slice A n cp)) 36)=W at *;go_cut [27] (fun u wx=>∃ bb:Bool,u= .bool bb∧(bb=true→bI fd op nu tx ot=false∨eU c fd=false∨(ot≠0∧eU c ot=false))∧(bb=false→¬ (bI fd op nu tx ot=false∨eU c fd=false∨(ot≠0∧eU c ot=false)))∧dH wx w.heap.size fd op nu tx ot∧cB wx (w.heap.size+1) c r (.slice A n cp)∧Below w.heap.size w wx);case first=>
  go_wp2_with fail;refine (HK.o _).mono ?_;rintro e w1 ⟨rfl,hb1⟩;have hT1:dH w1 w.heap.size fd op nu tx ot:=hT.below hb1;have HC1:=Hd (show cB w1 (w.heap.size+1) c r (.slice A n cp) from HC.o.below hb1);have HB1:=Hd (HB.o.trans (hb1.mono HB.o.size));clear hT HC HB HK hb1 IB;have HT1:=Hd hT1;have q0:=hT1.c0;have q4:=hT1.c4;clear hT1;cases hs:bI fd op nu tx ot
  · have HS:=Hd hs;clear hs;go_wp2_with fail;go_meet;exact ⟨true,rfl,(fun _=> .inl HS.o),(fun h=>nomatch h),HT1.o,HC1.o,HB1.o⟩
  · have HS:=Hd hs;clear hs;go_wp2_with (((with_reducible refine dC ?_ 36 (.tmp 3) ?_ HC1.o ?_ _ Tryz.underlying36 ?_ ?_ ?_);(iterate 4 rfl);exact dY _ _ _));refine (HHF.o _).mono ?_;rintro e w2 ⟨rfl,hb2⟩;have hT2:dH w2 w.heap.size fd op nu tx ot:=HT1.o.below hb2;have HC2:=Hd (show cB w2 (w.heap.size+1) c r (.slice A n cp) from HC1.o.below hb2);have HB2:=Hd (aa HB1.o hb2);clear HT1 HC1 HB1 hb2 q0 q4;have HT2:=Hd hT2;have q0:=hT2.c0;have q4:=hT2.c4;clear hT2;cases h1:eU c fd
    · have H1:=Hd h1;clear h1;go_wp2_with fail;go_meet;exact ⟨true,rfl,(fun _=> .inr (.inl H1.o)),(fun h=>nomatch h),HT2.o,HC2.o,HB2.o⟩
    · have H1:=Hd h1;clear h1;by_cases h0:ot=0
      · have H0:=Hd h0;have b0:(ot != 0)=false:=(by simpa using h0);clear h0;go_wp2_with fail;go_meet;exact ⟨false,rfl,(fun h=>nomatch h),(fun _=>by rw [HS.o,H1.o];simp [H0.o]),HT2.o,HC2.o,HB2.o⟩
      · have H0:=Hd h0;have b0:(ot != 0)=true:=(by simpa using h0);clear h0;go_wp2_with (((with_reducible refine dC ?_ 36 (.tmp 3) ?_ HC2.o ?_ _ Tryz.underlying36 ?_ ?_ ?_);(iterate 4 rfl);exact dY _ _ _));refine (HHO.o _).mono ?_;rintro e w3 ⟨rfl,hb3⟩;have hT3:dH w3 w.heap.size fd op nu tx ot:=HT2.o.below hb3;have HC3:=Hd (show cB w3 (w.heap.size+1) c r (.slice A n cp) from HC2.o.below hb3);have HB3:=Hd (aa HB2.o hb3);clear HT2 HC2 HB2 hb3 q0 q4;have HT3:=Hd hT3;have q0:=hT3.c0;have q4:=hT3.c4;clear hT3;cases h2:eU c ot
        · have H2:=Hd h2;clear h2;go_wp2_with fail;go_meet;exact ⟨true,rfl,(fun _=> .inr (.inr ⟨H0.o,H2.o⟩)),(fun h=>nomatch h),HT3.o,HC3.o,HB3.o⟩
        · have H2:=Hd h2;clear h2;go_wp2_with fail;go_meet;exact ⟨false,rfl,(fun h=>nomatch h),(fun _=>by rw [HS.o,H1.o,H2.o];simp),HT3.o,HC3.o,HB3.o⟩
 case rest=>
 obtain ⟨bb,rfl,hby,hbn,hT3,hC3,hB3⟩:=hcut;generalize wc=w3 at *;have HT3:=Hd hT3;have HC3:=Hd hC3;have HB3:=Hd hB3;have q0:=hT3.c0;have q4:=hT3.c4;clear hT3 hC3 hB3 hT HC HB HK IB;cases bb with
 | true=>
  have HF:=Hd (HE1.o (hby rfl));clear hby hbn;go_wp2_with fail;go_ret;exact ⟨bR HF.o.symm,HB3.o⟩
 | false=>
  have HG:=Hd (hbn rfl);clear hby hbn;have hso:bI fd op nu tx ot=true:=by
    cases h:bI fd op nu tx ot
    · exact absurd (.inl h) HG.o
    · rfl
  obtain ⟨rf,ro,rt⟩:=jM hso;have HV:=Hd (fun i ir W=>GA c r (.slice A n cp) fd op nu tx ot i ir rf ro rt W);have HI1:=Hd (fun W=>yE fd W);have HI2:=Hd (fun W=>yE ot W);clear rf ro rt hso;go_upto_region 3 with fail;go_cut [37] (fun u wx=>∃ bb:Bool,u= .bool bb∧(bb=true→dx fd=false∧dx ot=false)∧(bb=false→¬ (dx fd=false∧dx ot=false))∧w3=wx);case first=>
    go_wp2_with fail;refine (HI1.o _).mono ?_;rintro e w9 ⟨rfl,rfl⟩;cases hf:dx fd
    · cases ht:dx ot
      · have HF:=Hd (And.intro hf ht);rw [ht] at HI2;clear hf ht;go_wp2_with fail;refine (HI2.o _).mono ?_;rintro e w9 ⟨rfl,rfl⟩;go_wp2_with fail;go_meet;exact ⟨true,rfl,(fun _=>HF.o),(fun h=>nomatch h),rfl⟩
      · have HF:=Hd ht;rw [ht] at HI2;clear hf ht;go_wp2_with fail;refine (HI2.o _).mono ?_;rintro e w9 ⟨rfl,rfl⟩;go_wp2_with fail;go_meet;exact ⟨false,rfl,(fun h=>nomatch h),(fun _ h=>by have h9:=HF.o;rw [h.2] at h9;cases h9),rfl⟩
    · have HF:=Hd hf;clear hf;go_wp2_with fail;go_meet;exact ⟨false,rfl,(fun h=>nomatch h),(fun _ h=>by have h9:=HF.o;rw [h.1] at h9;cases h9),rfl⟩
  case rest=>
  obtain ⟨bb,rfl,hby,hbn,rfl⟩:=hcut;cases bb with
  | true=>
    have HF:=Hd (HE2.o HG.o (hby rfl));clear hby hbn;have hlT:=mY HT3.o;go_wp2_with (((with_reducible refine ax ?_ 36 (.tmp 3) ?_ HC3.o ?_ _ Tryz.underlying36 ?_ ?_ ?_);(iterate 4 rfl);exact dY _ _ _));refine (HV.o Itm.none irZ _).mono ?_;rintro e w10 ⟨rfl,Ar⟩;have Cf:=Hd (aa HB3.o Ar);go_wp2_with fail;go_ret;exact ⟨bR HF.o.symm,Cf.o⟩
  | false=>
    have HF:=Hd (HE3.o HG.o (hbn rfl));clear hby hbn;go_wp2_with fail;go_loopw [5] (fun i wr' =>∃ k:Nat,k≤L.length∧i= .int .i64 (k:Int)∧Hid (∀ j (hj:j < L.length),j < k→(eQ (L[j]'hj).1 && cz c fd op nu tx ot (L[j]'hj).1)=false)∧Below w3.heap.size w3 wr') (fun i _=>L.length - (intOf i).toNat);case atStart=>exact ⟨0,Nat.zero_le _,rfl,fun j _ hj=>by omega,Below.refl _ _⟩
    case round=>
      obtain ⟨k,hk,rfl,hno,hb⟩:=hrel;have HBR:=Hd (aa HB3.o hb);have hln:n=L.length:=HLN.o;subst hln;have hCR:cB wr (w.heap.size+1) c r (.slice A L.length cp):=HC3.o.below hb;have qi:=hCR.items;by_cases hlt:k < L.length
      · obtain ⟨ad,e,Bh,hcl⟩:=(HLI.o.keep HBR.o (Nat.le_refl _)) k hlt;cases e;have HTR:=Hd (show dH wr w.heap.size fd op nu tx ot from HT3.o.below hb);have HKR:=Hd (fun (x:World) (h:Below wr.heap.size wr x)=>GG HTR.o hCR hcl (by rw [add_block];have:=HBR.o.size;omega) h);obtain ⟨_,JP,JQ,JR,IC,_⟩:=HKR.o wr (Below.refl _ _);have HOLD:=Hd hb;clear hcl hb q0 q4;generalize hy:L[k]'hlt=y at *;have HY:=Hd hy;clear hy;obtain ⟨⟨dev,ino,uid,gid,kind⟩,⟨gv,pa,dd,di,nm,ro,mo,pe⟩⟩:=y;simp only at IC HKR;by_cases hd:dev=0
        · subst hd;by_cases hi:ino=0
          · subst hi;have HN:=Hd (show ∀ j (hj:j < L.length),j < k+1→(eQ (L[j]'hj).1 && cz c fd op nu tx ot (L[j]'hj).1)=false from fun j hj hjk=>by
              by_cases e:j=k
              · subst e;rw [HY.o];rfl
              · exact hno.o j hj (by omega))
            have HQN:=Hd (fun n=>(HKR.o (wr.drewN n) (below_drewN (Below.refl _ _) n)).2.2.2.2.1);clear HKR JP JQ JR IC;go_wp2_with fail;have hqn:∀ n,(loadVar 26 ⟨(ad.add (k * 13)).block,(ad.add (k * 13)).off+5,none⟩).run Tryz.prog (wr.drewN n)= .ok (.agg #[.int .i64 0, .int .i64 0]) (wr.drewN n):=fun n=>HQN.o n;go_quiet (fail);go_wp2_with fail;go_roundw;case rel=>exact ⟨k+1,by omega,by go_num,HN,below_drewN HOLD.o _⟩
            case measure=>simp [intOf];omega
          · have hib:(ino == 0)=false:=(by simpa using hi);have HV1:=Hd (fun W=>HV.o ⟨0,ino,uid,gid,kind⟩ ⟨gv,pa,dd,di,nm,ro,mo,pe⟩ W);go_wp2_with fail
            go_region_held3 (fun w' =>Below wr.heap.size wr w' ∧(loadVar 55 ⟨w.heap.size,0,none⟩).run Tryz.prog w' = .ok (.agg (bO fd op nu tx ot)) w' ∧(loadVar 36 ⟨w.heap.size+1,0,none⟩).run Tryz.prog w' = .ok (.agg (dR c r (.slice (some ad) L.length cp))) w' ∧(loadVar 77 (ad.add (k * 13))).run Tryz.prog w' = .ok (.agg (aG ⟨0,ino,uid,gid,kind⟩ ⟨gv,pa,dd,di,nm,ro,mo,pe⟩)) w' ∧(loadVar 26 ⟨(ad.add (k * 13)).block,(ad.add (k * 13)).off+5,none⟩).run Tryz.prog w' = .ok (.agg #[.int .i64 0, .int .i64 ino]) w' ∧w'.cell? ⟨w.heap.size+1,23,none⟩=some (.slice (some ad) L.length cp))
              (first | exact HKR.o _ (oN _) | exact HKR.o _ (aa (And.left (by assumption)) hb5))
              ((go_at_call 25;refine (HV1.o _).mono ?_;rintro e w5 ⟨rfl,hb5⟩))
            all_goals
              cases hh:cz c fd op nu tx ot ⟨0,ino,uid,gid,kind⟩
              · have HN:=Hd (show ∀ j (hj:j < L.length),j < k+1→(eQ (L[j]'hj).1 && cz c fd op nu tx ot (L[j]'hj).1)=false from fun j hj hjk=>by
                  by_cases e:j=k
                  · subst e;rw [HY.o,hh];simp
                  · exact hno.o j hj (by omega))
                clear hh;go_wp2_with fail;go_roundw;case rel=>exact ⟨k+1,by omega,by go_num,HN,aa HOLD.o (And.left (by assumption))⟩
                case measure=>simp [intOf];omega
              · have ve:=Hd (HF.o.trans (jB hlt (by rw [HY.o,hh];unfold eQ;simp [hi])));clear hh;go_wp2_with fail;go_ret;exact ⟨bR ve.o.symm,aa HBR.o (And.left (by assumption))⟩
        · have hdb:(dev == 0)=false:=(by simpa using hd);have HV1:=Hd (fun W=>HV.o ⟨dev,ino,uid,gid,kind⟩ ⟨gv,pa,dd,di,nm,ro,mo,pe⟩ W);go_wp2_with fail
          go_region_held3 (fun w' =>Below wr.heap.size wr w' ∧(loadVar 55 ⟨w.heap.size,0,none⟩).run Tryz.prog w' = .ok (.agg (bO fd op nu tx ot)) w' ∧(loadVar 36 ⟨w.heap.size+1,0,none⟩).run Tryz.prog w' = .ok (.agg (dR c r (.slice (some ad) L.length cp))) w' ∧(loadVar 77 (ad.add (k * 13))).run Tryz.prog w' = .ok (.agg (aG ⟨dev,ino,uid,gid,kind⟩ ⟨gv,pa,dd,di,nm,ro,mo,pe⟩)) w' ∧(loadVar 26 ⟨(ad.add (k * 13)).block,(ad.add (k * 13)).off+5,none⟩).run Tryz.prog w' = .ok (.agg #[.int .i64 dev, .int .i64 ino]) w' ∧w'.cell? ⟨w.heap.size+1,23,none⟩=some (.slice (some ad) L.length cp))
            (first | exact HKR.o _ (oN _) | exact HKR.o _ (aa (And.left (by assumption)) hb5))
            ((go_at_call 25;refine (HV1.o _).mono ?_;rintro e w5 ⟨rfl,hb5⟩))
          all_goals
            cases hh:cz c fd op nu tx ot ⟨dev,ino,uid,gid,kind⟩
            · have HN:=Hd (show ∀ j (hj:j < L.length),j < k+1→(eQ (L[j]'hj).1 && cz c fd op nu tx ot (L[j]'hj).1)=false from fun j hj hjk=>by
                by_cases e:j=k
                · subst e;rw [HY.o,hh];simp
                · exact hno.o j hj (by omega))
              clear hh;go_wp2_with fail;go_roundw;case rel=>exact ⟨k+1,by omega,by go_num,HN,aa HOLD.o (And.left (by assumption))⟩
              case measure=>simp [intOf];omega
            · have ve:=Hd (HF.o.trans (jB hlt (by rw [HY.o,hh];unfold eQ;simp [hd])));clear hh;go_wp2_with fail;go_ret;exact ⟨bR ve.o.symm,aa HBR.o (And.left (by assumption))⟩
      · have HNO:=Hd (HF.o.trans (uY fun j hj=>hno.o j hj (by omega)));clear hb q0 q4;go_wp2_with fail;go_ret;exact ⟨bR HNO.o.symm,HBR.o⟩
end Go.Proofs.YtnpaoepkpdileaaGreatDoor
namespace Go.Proofs.YtnpaoepkpdileaaGreatDoor
open Go.RowKit
structure ym (w:World):Prop where
 fn:FNames w
 fo:FOps w
 tb:Tab w
 pw:Pow w
theorem ym.below {w w' :World} (h:ym w) (hb:Below w.heap.size w w'):ym w' :=⟨h.fn.below hb,h.fo.below hb,h.tb.below hb (Nat.le_refl _),h.pw.below hb (Nat.le_refl _)⟩
attribute [local irreducible] dR
attribute [local irreducible] aj ny nW gV gW
attribute [-go_sem] loadVar
attribute [local go_sem] EC ED GD
end Go.Proofs.YtnpaoepkpdileaaGreatDoor
namespace Go.Proofs.YtnpaoepkpdileaaGreatDoor
open Go.RowKit
theorem bG.grown {w w' :World} {B g:Nat} {A:Option Addr} {L:List (Itm×aS)} (h:bG w B A L) (hg:w.grownBy w' (some g)) (hB:B≤w.heap.size) (hne:∀ ad,A=some ad→ad.block≠g):bG w' B A L:=fun k hk=>by
 obtain ⟨ad,e,hl,hc⟩:=h k hk;exact ⟨ad,e,hl,fun j hj=>(hg.cell_far _ (by rw [add_block,add_block];omega) (by rw [add_block,add_block];intro e2;injection e2 with e2;exact hne ad e e2)).trans (hc j hj)⟩
structure BSt (w wr:World) (gc:Nat) (b:Int) (c:Ctx) (r:cZ) (A:Option Addr) (cp:Nat) (L:List (Itm×aS)):Prop where
 low:Below w.heap.size w wr
 src:aP wr w.heap.size w.heap.size b
 cb:cB wr gc c r (.slice A L.length cp)
 it:bG wr gc A L
 nb:∀ ad,A=some ad→ad.block≠w.heap.size
 hg:w.heap.size < gc
section
variable {w wr w' :World} {gc:Nat} {b b' :Int} {c:Ctx} {r:cZ} {A:Option Addr} {cp:Nat} {L:List (Itm×aS)}
theorem BSt.step (h:BSt w wr gc b c r A cp L) (hs:aP w' w.heap.size w.heap.size b') (hg:wr.grownBy w' (some w.heap.size)):BSt w w' gc b' c r A cp L:=
 ⟨jf h.low hg h.low.size (Nat.le_refl _),hs,Blk.grown h.cb hg (fun e=>by injection e with e;have:=h.hg;omega),h.it.grown hg (Nat.le_of_lt (Blk.lt h.cb)) h.nb,h.nb,h.hg⟩
theorem BSt.below (h:BSt w wr gc b c r A cp L) (hb:Below wr.heap.size wr w'):BSt w w' gc b c r A cp L:=
 ⟨aa h.low hb,h.src.below hb,Blk.below h.cb hb,h.it.keep hb (Nat.le_of_lt (Blk.lt h.cb)),h.nb,h.hg⟩
theorem BSt.drew (h:BSt w wr gc b c r A cp L):BSt w wr.drew gc b c r A cp L:=⟨⟨h.low.os,h.low.tape,h.low.output,h.low.size,h.low.block⟩,h.src,h.cb,h.it,h.nb,h.hg⟩
theorem BSt.more (h:BSt w wr gc b c r A cp L) (hb:b≤b'):BSt w wr gc b' c r A cp L:=⟨h.low,h.src.more hb,h.cb,h.it,h.nb,h.hg⟩
theorem BSt.items (h:BSt w wr gc b c r A cp L):bG wr wr.heap.size A L:=h.it.more (Nat.le_of_lt (Blk.lt h.cb))
end
end Go.Proofs.YtnpaoepkpdileaaGreatDoor
