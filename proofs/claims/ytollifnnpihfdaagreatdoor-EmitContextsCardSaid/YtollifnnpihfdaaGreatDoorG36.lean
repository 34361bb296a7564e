import Derived.Test.YtollifnnpihfdaaGreatDoorG35
set_option maxRecDepth 100000
set_option maxHeartbeats 64000000
set_option linter.all false
namespace Go.Proofs.YtollifnnpihfdaaGreatDoor
open Go.RowKit
def Ir (a b c:ByteArray) (i:Int):ByteArray:=if i=1 then a else if i=2 then b else if i=3 then c else ⟨#[110,111,110,101]⟩
theorem FV (a b c:ByteArray) (A:Option Addr) (cp:Nat) (i:Int) (w:World) (hA:AtE kD w w.heap.size A [a,b,c]):
   Calls Tryz.prog 104 #[.slice A 3 cp, .int .i64 i] w fun e w' =>e= .returned (.string (Ir a b c i))∧w=w' :=by
 obtain ⟨ad,rfl,hab,h0⟩:=hA 0 (by simp);obtain ⟨ad1,e1,_,h1⟩:=hA 1 (by simp);obtain ⟨ad2,e2,_,h2⟩:=hA 2 (by simp);injection e1 with e1;injection e2 with e2;subst e1 e2;have c0:w.cell? (ad.add 0)=some (.string a):=fU (a:=ad.add (0 * 1)) h0;have c1:w.cell? (ad.add 1)=some (.string b):=fU (a:=ad.add (1 * 1)) h1;have c2:w.cell? (ad.add 2)=some (.string c):=fU (a:=ad.add (2 * 1)) h2;have c0' :w.cell? ad=some (.string a):=c0;have c1' :w.cell? ⟨ad.block,ad.off+1,none⟩=some (.string b):=c1;have c2' :w.cell? ⟨ad.block,ad.off+2,none⟩=some (.string c):=c2;clear h0 h1 h2 hA;by_cases q1:i=1
 · subst q1;go_in;go_wp2_with fail;go_ret;exact ⟨rfl,rfl⟩
 · by_cases q2:i=2
   · subst q2;go_in;go_wp2_with fail;go_ret;exact ⟨rfl,rfl⟩
   · by_cases q3:i=3
     · subst q3;go_in;go_wp2_with fail;go_ret;exact ⟨rfl,rfl⟩
     · have HE:=Hd (show Ir a b c i=⟨#[110,111,110,101]⟩ by unfold Ir;rw [if_neg q1,if_neg q2,if_neg q3]);by_cases q4:i < 1
       · go_in;go_wp2_with fail;go_ret;exact ⟨by rw [HE.o];rfl,rfl⟩
       · have q5:(3:Int) < i:=(by omega);go_in;go_wp2_with fail;go_ret;exact ⟨by rw [HE.o];rfl,rfl⟩
def Me (w:World) (base g:Nat) (b:Int) (e:Ending) (w' :World):Prop:=∃ (A:Option Addr) (n c:Nat) (ds:List Dm),e= .returned (fsV A n c)∧aC w' w.heap.size (.slice A n c) ds∧FOk (ds.map Dm.dv)∧aB w' base g b∧w.grownBy w' (some g)
theorem aC.box {w:World} {base k:Nat} {v:Value} {ds:List Dm} {cs:Array Value} (h:aC w base v ds) (hk:Blk w k 28 cs):v.ownBlock≠some k∧(∀ d∈ds,d.sl.ownBlock≠some k)∧∀ d∈ds,∀ x∈d.xs,x.sl.ownBlock≠some k:=
 ⟨ay h.own hk (by decide),fun dd hdd=>ay (h.nodes dd hdd).1 hk (by decide),fun dd hdd y hy=>ay (h.cO dd hdd y hy).1 hk (by decide)⟩
structure FlS (w wr:World) (base g gf:Nat) (b:Int) (k:Nat):Prop where
 src:aB wr base g (b+2+100 * (12 - k))
 only:w.grownBy wr (some g)
 R:Blk wr w.heap.size 28 #[.slice none 0 0]
 o:∃ (A:Option Addr) (n c:Nat) (ds:List Dm),Blk wr gf 28 #[.slice A n c]∧aC wr w.heap.size (.slice A n c) ds∧FOk (ds.map Dm.dv)
theorem BR (w:World) (base g:Nat) (b:Int) (h:aB w base g b) (hb:b≤10000000000):
  Calls Tryz.prog 58 #[.pointer (some ⟨g,0,none⟩)] w (Me w base g (b+1300)):=by
 have HB:=Hd hb;have hgw:g < w.heap.size:=aW h;have hbase:base≤w.heap.size:=by have:=h.1;omega
 have S0:=Hd (h.alloc (.cells #[.slice none 0 0] 28));have R0:=Hd (Blk.new w #[.slice none 0 0] 28);have O0:=Hd (av (World.grownBy.refl w (some g)) (.cells #[.slice none 0 0] 28));clear h hb;go_in;go_upto_region 1 with fail;generalize w.alloc (.cells #[.slice none 0 0] 28)=w0 at *;go_wp2_with fail;refine (aA w0 base g b 1 3 S0.o (by have:=HB.o;omega) (by omega) (by omega) (by omega)).mono ?_;rintro e w1 ⟨x,rfl,x0,x1,hs,hgr⟩;obtain ⟨nn,rfl⟩:=Int.eq_ofNat_of_zero_le (show 0≤x by omega);have O1:=Hd (dJ O0.o hgr);have R1:=Hd (R0.o.src hgr (by omega));have S1:=Hd hs;clear hs hgr S0 R0 O0;go_wp2_with fail;refine (Pj nn (by omega) (by omega) w1).mono ?_;rintro e w2 ⟨v,ds,rfl,hfs,hds,hbl⟩;have hok:FOk (ds.map Dm.dv):=by rw [hds];exact FOk.new (by omega) (by omega)
 obtain ⟨A,c,rfl,_⟩:=hfs.at;have S2:=Hd (S1.o.below hbl);have R2:=Hd (R1.o.below hbl);have O2:=Hd (bE O1.o hbl);have HW1:=O1.o.size;have F3:=Hd ((hfs.low HW1).below ((Below.refl w2.heap.size w2).alloc (Nat.le_refl _) (.cells #[.slice A ds.length c] 28)));have S3:=Hd (S2.o.alloc (.cells #[.slice A ds.length c] 28));have R3:=Hd (R2.o.alloc (.cells #[.slice A ds.length c] 28));have O3:=Hd (av O2.o (.cells #[.slice A ds.length c] 28));have B3:=Hd (Blk.new w2 #[.slice A ds.length c] 28);have hgf:w.heap.size < w2.heap.size:=R2.o.lt;have HOK:=Hd hok;clear hfs hds hbl S1 R1 O1 S2 R2 O2 hok HW1;go_upto_region 2 with fail;generalize w2.alloc (.cells #[.slice A ds.length c] 28)=w3 at *;go_wp2_with fail;refine (aA w3 base g (b+1) 2 12 S3.o (by have:=HB.o;omega) (by omega) (by omega) (by omega)).mono ?_;rintro e w4 ⟨y,rfl,y0,y1,hs,hgr⟩;obtain ⟨k0,rfl⟩:=Int.eq_ofNat_of_zero_le (show 0≤y by omega);have L4:=Hd (show FlS w w4 base g w2.heap.size b k0 from ⟨hs.more (by omega),dJ O3.o hgr,R3.o.src hgr (by omega),A,ds.length,c,ds,B3.o.src hgr (by omega),F3.o.far hgr (fun q e=>by injection e with e;subst e;exact F3.o.old hgw),HOK.o⟩);clear hs hgr S3 R3 O3 B3 F3 HOK;go_wp2_with fail;go_loopw [5] (fun ix wr=>∃ k:Nat,k≤12∧ix= .int .i64 k∧Hid (FlS w wr base g w2.heap.size b k)) (fun ix _=>(intOf ix).toNat);case atStart=>exact ⟨k0,by omega,rfl,L4⟩
 case round=>
  clear L4 x0 x1 y0 y1;obtain ⟨k,hk,rfl,HS⟩:=hrel;obtain ⟨A',n',c',ds',hbf,hff,hok⟩:=HS.o.o;have HBF:=Hd hbf;have HFF:=Hd hff;have HOK:=Hd hok;have f0:=hbf.cell 0;clear hbf hff hok;by_cases hpos:0 < k;case pos=>
   obtain ⟨k',rfl⟩:∃ k',k=k' +1:=⟨k - 1,by omega⟩;have q1:(0:Int) < ((k' +1:Nat):Int):=(by omega);have wk:IntKind.i64.wrap (((k' +1:Nat):Int) - 1)=(k' :Int):=(by rw [show (((k' +1:Nat):Int) - 1)=(k' :Int) by omega];exact IntWalk.i64_in _ (by omega));have wk2:wrap64 (((k' +1:Nat):Int) - 1)=(k' :Int):=(by rw [show (((k' +1:Nat):Int) - 1)=(k' :Int) by omega];exact IntWalk.wrap64_in _ (by omega));have WK:=Hd (And.intro wk wk2);clear wk wk2;go_wp2_with fail;refine (yg wr base g _ HS.o.src (by have:=HB.o;omega) w.heap.size A' n' c' ds' HFF.o hgw HS.o.only.size HOK.o).mono ?_;rintro e w6 ⟨A6,n6,c6,ds6,rfl,hf6,RD,hs6,hgr⟩;have B6:=Hd (HBF.o.src hgr (by omega));have hgx:=aJ w6 w2.heap.size #[.slice A6 n6 c6];have LN:=Hd (show FlS w (w6.setRow w2.heap.size #[.slice A6 n6 c6]) base g w2.heap.size b k' from
    ⟨(hs6.more (by omega)).grown hgx (fun r e=>by injection e with e;exact ⟨by omega,by omega⟩),eD (dJ HS.o.only hgr) (by omega) _,(HS.o.R.src hgr (by omega)).aS _ (by omega),A6,n6,c6,ds6,B6.o.row _,hf6.far hgx (fun q e=>by injection e with e;subst e;exact hf6.box B6.o),RD⟩)
   clear hf6 RD hs6 hgr hgx f0;obtain ⟨wk,wk2⟩:=WK.o;go_wp2_with ((with_reducible refine ae ?_ 28 (.tmp 3) (.tmp 20) ?_ B6.o #[.slice A6 n6 c6] ?_ ?_ ?_ ?_ ?_ ?_);(iterate 4 rfl);(exact bS _);rfl;(exact bu _ _ _));clear wk wk2;go_roundw;case rel=>exact ⟨k',by omega,rfl,LN⟩
   case measure=>simp [intOf]
  case neg=>
   have q1:¬ (0:Int) < (k:Int):=(by omega);go_wp2_with ((with_reducible refine ae ?_ 28 (.tmp 2) (.tmp 21) ?_ HS.o.R #[.slice A' n' c'] ?_ ?_ ?_ ?_ ?_ ?_);(iterate 4 rfl);(exact bS _);rfl;(exact bu _ _ _));refine bodyPost_ret (wM (fn:=Tryz.f58) rfl _ _ w.heap.size (.slice A' n' c') rfl (Blk.row HS.o.R _)) rfl ?_;have hgx:=aJ wr w.heap.size #[.slice A' n' c'];exact ⟨A',n',c',ds',rfl,HFF.o.far hgx (fun q e=>by injection e with e;subst e;exact HFF.o.box HS.o.R),HOK.o,(HS.o.src.more (by omega)).grown hgx (fun r e=>by injection e with e;exact ⟨by omega,by omega⟩),eD HS.o.only (Nat.le_refl _) _⟩
theorem dZ (w:World) (p:Addr) (v:Value):w.grownBy (w.setCell p v) (some p.block):=
 ⟨rfl,rfl,rfl,by simp,fun i _ hne=>Below.heap_setCell w p v i (fun e=>hne (by rw [e]))⟩
def GsA (w wr:World) (gc:Nat) (r:aN):Prop:=∃ L:List ByteArray,L.length≤4∧(∀ s∈L,s.size≤4)∧bF wr (w.heap.size+1) r.gs.v L∧∀ q,r.gs.v.ownBlock=some q→q < gc
theorem GsA.alloc {w wr:World} {gc:Nat} {r:aN} (h:GsA w wr gc r) (o:Obj):GsA w (wr.alloc o) gc r:=by
 obtain ⟨L,h1,h2,h3,h4⟩:=h;exact ⟨L,h1,h2,World.ownsRow.alloc h3 o,h4⟩
theorem GsA.far {w wr w' :World} {gc:Nat} {r:aN} (h:GsA w wr gc r) {row:Option Nat} (hg:wr.grownBy w' row) (hr:∀ q,row=some q→q≤w.heap.size∨gc≤q):GsA w w' gc r:=by
 obtain ⟨L,h1,h2,h3,h4⟩:=h;refine ⟨L,h1,h2,World.ownsRow.kept h3 hg ?_,h4⟩;cases hv:r.gs.v.ownBlock with
 | none=>exact .inl rfl
 | some k=>
  right;intro e;have h5:=(World.ownsRow.lt h3 k hv).1;have h6:=h4 k hv;rcases hr k e.symm with h7 | h7 <;> omega
theorem GsA.post {w w' :World} {gc:Nat} {r:aN} (h:GsA w w' gc r):∃ gs:List ByteArray,gs.length≤4∧(∀ s∈gs,s.size≤4)∧bF w' w.heap.size r.gs.v gs:=by
 obtain ⟨L,h1,h2,h3,_⟩:=h;exact ⟨L,h1,h2,h3.mono (by omega)⟩
structure K1A (w wr:World) (base g:Nat) (b:Int) (gc:Nat) (c:Ctx) (r:aN) (it:Value):Prop where
 only:w.grownBy wr (some g)
 src:aB wr base g b
 rb:Blk wr w.heap.size 54 iw
 cb:Blk wr gc 54 (aV c r it)
 h2:w.heap.size < gc
 h3:g < w.heap.size
 h4:base≤w.heap.size
 gs:GsA w wr gc r
section
variable {w wr w' :World} {base g gc:Nat} {b b' :Int} {c:Ctx} {r:aN} {it:Value}
theorem K1A.more (h:K1A w wr base g b gc c r it) (hb:b≤b'):K1A w wr base g b' gc c r it:=⟨h.only,h.src.more hb,h.rb,h.cb,h.h2,h.h3,h.h4,h.gs⟩
theorem K1A.alloc (h:K1A w wr base g b gc c r it) (o:Obj):K1A w (wr.alloc o) base g b gc c r it:=⟨av h.only o,h.src.alloc o,h.rb.alloc o,h.cb.alloc o,h.h2,h.h3,h.h4,h.gs.alloc o⟩
theorem K1A.drew (h:K1A w wr base g b gc c r it):K1A w wr.drew base g b gc c r it:=⟨⟨h.only.os,h.only.tape,h.only.output,h.only.size,h.only.block⟩,h.src.drew,h.rb,h.cb,h.h2,h.h3,h.h4,h.gs⟩
theorem K1A.step (h:K1A w wr base g b gc c r it) (hs:aB w' base g b') (hg:wr.grownBy w' (some g)):K1A w w' base g b' gc c r it:=⟨h.only.trans hg,hs,h.rb.grown hg (fun e=>by injection e with e;have:=h.h3;omega),h.cb.grown hg (fun e=>by injection e with e;have:=h.h2;have:=h.h3;omega),h.h2,h.h3,h.h4,h.gs.far hg (fun q e=> .inl (by injection e with e;have:=h.h3;omega))⟩
theorem K1A.grown (h:K1A w wr base g b gc c r it) {row:Option Nat} (hg:wr.grownBy w' row) (hr:∀ r,row=some r→gc < r):K1A w w' base g b gc c r it:=
 ⟨⟨hg.os.trans h.only.os,hg.tape.trans h.only.tape,hg.output.trans h.only.output,Nat.le_trans h.only.size hg.size,fun i hi hne=>(hg.block i (Nat.lt_of_lt_of_le hi h.only.size) (fun e=>by have:=hr i e.symm;have:=h.h2;omega)).trans (h.only.block i hi hne)⟩,
  h.src.grown hg (fun r e=>by have:=hr r e;have:=h.h2;have:=h.h3;have:=h.h4;omega),h.rb.grown hg (fun e=>by have:=hr _ e;have:=h.h2;omega),h.cb.grown hg (fun e=>by have:=hr gc e;omega),h.h2,h.h3,h.h4,h.gs.far hg (fun q e=> .inr (by have:=hr q e;omega))⟩
theorem K1A.ph (h:K1A w wr base g b gc c r it) (x:Int):K1A w (wr.setCell ⟨gc,0,none⟩ (.int .i64 x)) base g b gc { c with ph:=x } r it:=⟨ag h.only (.inr (by show w.heap.size≤gc;have:=h.h2;omega)) _,h.src.setCell (by show base≤gc;have:=h.h2;have:=h.h4;omega) (by show gc≠g;have:=h.h2;have:=h.h3;omega) _,h.rb.af _ (by show w.heap.size≠gc;have:=h.h2;omega),h.cb.put 0 (.int .i64 x),h.h2,h.h3,h.h4,h.gs.far (dZ _ _ _) (fun q e=> .inr (by injection e with e;rw [← e];exact Nat.le_refl gc))⟩
theorem K1A.ex (h:K1A w wr base g b gc c r it) (x:Int):K1A w (wr.setCell ⟨gc,22,none⟩ (.int .i64 x)) base g b gc { c with ex:=x } r it:=⟨ag h.only (.inr (by show w.heap.size≤gc;have:=h.h2;omega)) _,h.src.setCell (by show base≤gc;have:=h.h2;have:=h.h4;omega) (by show gc≠g;have:=h.h2;have:=h.h3;omega) _,h.rb.af _ (by show w.heap.size≠gc;have:=h.h2;omega),h.cb.put 22 (.int .i64 x),h.h2,h.h3,h.h4,h.gs.far (dZ _ _ _) (fun q e=> .inr (by injection e with e;rw [← e];exact Nat.le_refl gc))⟩
theorem K1A.ty (h:K1A w wr base g b gc c r it) (x:Int):K1A w (wr.setCell ⟨gc,24,none⟩ (.int .i64 x)) base g b gc { c with ty:=x } r it:=⟨ag h.only (.inr (by show w.heap.size≤gc;have:=h.h2;omega)) _,h.src.setCell (by show base≤gc;have:=h.h2;have:=h.h4;omega) (by show gc≠g;have:=h.h2;have:=h.h3;omega) _,h.rb.af _ (by show w.heap.size≠gc;have:=h.h2;omega),h.cb.put 24 (.int .i64 x),h.h2,h.h3,h.h4,h.gs.far (dZ _ _ _) (fun q e=> .inr (by injection e with e;rw [← e];exact Nat.le_refl gc))⟩
theorem K1A.sit (h:K1A w wr base g b gc c r it) (x:Value):K1A w (wr.setCell ⟨gc,23,none⟩ x) base g b gc c r x:=⟨ag h.only (.inr (by show w.heap.size≤gc;have:=h.h2;omega)) _,h.src.setCell (by show base≤gc;have:=h.h2;have:=h.h4;omega) (by show gc≠g;have:=h.h2;have:=h.h3;omega) _,h.rb.af _ (by show w.heap.size≠gc;have:=h.h2;omega),h.cb.put 23 x,h.h2,h.h3,h.h4,h.gs.far (dZ _ _ _) (fun q e=> .inr (by injection e with e;rw [← e];exact Nat.le_refl gc))⟩
end
def MB (w:World) (base g:Nat) (b:Int) (e:Ending) (w' :World):Prop:=∃ (c:Ctx) (r:aN) (it:Value) (L:List (Itm×aD)),e= .returned (.agg (aV c r it))∧L.length≤2∧iW w' w.heap.size it L∧(∃ gs:List ByteArray,gs.length≤4∧(∀ s∈gs,s.size≤4)∧bF w' w.heap.size r.gs.v gs)∧aB w' base g b∧w.grownBy w' (some g)
theorem EY {w wr:World} {base g gc:Nat} {b b' :Int} {c:Ctx} {r:aN} {it:Value} {L:List (Itm×aD)} (h:K1A w wr base g b' gc c r it) (hb:b' ≤b) (hL:L.length≤2) (ho:iW wr (gc+1) it L):MB w base g b (.returned (.agg (aV c r it))) (wr.setRow w.heap.size (aV c r it)):=by
 have h2:=h.h2;have h3:=h.h3;have h4:=h.h4;have hgs:=h.gs.far (w' :=wr.setRow w.heap.size (aV c r it)) (row:=some w.heap.size) ⟨rfl,rfl,rfl,by rw [setRow_size];exact Nat.le_refl _,fun i _ hne=>setRow_other _ w.heap.size i _ (fun e=>hne (by rw [e]))⟩ (fun q e=> .inl (by injection e with e;omega));exact ⟨c,r,it,L,rfl,hL,(ho.row (by omega) _).low (by omega),hgs.post,(h.src.keep (setRow_other _ w.heap.size g _ (by omega)) (fun i hi=>setRow_other _ w.heap.size i _ (by omega))).more hb,⟨h.only.os,h.only.tape,h.only.output,by rw [setRow_size];exact h.only.size,fun i hi hne=>(setRow_other _ w.heap.size i _ (by omega)).trans (h.only.block i hi hne)⟩⟩
attribute [local irreducible] aV az
theorem uG (w:World) (base g:Nat) (b:Int) (h:aB w base g b) (hb:b≤100000000000):
  Calls Tryz.prog 21 #[.pointer (some ⟨g,0,none⟩)] w (MB w base g (b+500)):=by
 have HB:=Hd hb;have rz:g < w.heap.size:=aW h;have hbase:base≤w.heap.size:=by have:=h.1;omega
 have hs0:aB (w.alloc (.cells iw 54)) base g b:=h.alloc _;have ho0:=av (World.grownBy.refl w (some g)) (.cells iw 54);have hr0:Blk (w.alloc (.cells iw 54)) w.heap.size 54 iw:=Blk.new w _ _;clear h hb;go_in;go_wp2_with fail;refine (aA _ base g b 1 2 hs0 (by have:=HB.o;omega) (by omega) (by omega) (by omega)).mono ?_;rintro e w1 ⟨ph,rfl,ph1,ph2,hs,hg⟩;have hs1:=hs;have ho1:=ho0.trans hg;have hr1:=hr0.grown hg (fun e=>by injection e with e;omega);clear hs hg hs0 ho0 hr0;go_wp2_with fail;refine (zk _ base g (b+1) hs1 (by have:=HB.o;omega)).mono ?_;rintro e w2 ⟨p,comm,exe,au,rfl,_,_,hs,hg⟩;have hs2:=hs;have ho2:=ho1.trans hg;have hr2:=hr1.grown hg (fun e=>by injection e with e;omega);clear hs hg hs1 ho1 hr1;go_wp2_with fail;refine (Ev _ base g (b+1+11) hs2 (by have:=HB.o;omega)).mono ?_;rintro e w3 ⟨z,a,vp,va,ps,gs,rfl,_,_,_,hgl,_,hgz,RJ,NC,hs,hg⟩;obtain ⟨Ap,np,cp,rfl⟩:=slice_form RJ;obtain ⟨Ag,ng,cg,rfl⟩:=slice_form NC;have ho3:=ho2.trans hg;have hr3:=hr2.grown hg (fun e=>by injection e with e;omega);have hw3:w.heap.size < w3.heap.size:=hr3.lt;have HG0:=Blk.new w3 iw 54;have HN:=Im ph p comm exe au z a ⟨Ap,np,cp⟩ ⟨Ag,ng,cg⟩;have RL:aB ((w3.alloc (.cells iw 54)).setRow w3.heap.size (aV ⟨ph,p,a,0,0,comm,exe⟩ ⟨0,0,⟨none,0,0⟩,au,z,⟨Ap,np,cp⟩,⟨Ag,ng,cg⟩⟩ (.slice none 0 0))) base g (b+1+11+200):=(hs.alloc _).keep (setRow_other _ w3.heap.size g _ (by omega)) (fun i hi=>setRow_other _ w3.heap.size i _ (by omega));have RN:w.grownBy ((w3.alloc (.cells iw 54)).setRow w3.heap.size (aV ⟨ph,p,a,0,0,comm,exe⟩ ⟨0,0,⟨none,0,0⟩,au,z,⟨Ap,np,cp⟩,⟨Ag,ng,cg⟩⟩ (.slice none 0 0))) (some g):=by
  have:=av ho3 (.cells iw 54);exact ⟨this.os,this.tape,this.output,by rw [setRow_size];exact this.size,fun i hi hne=>(setRow_other _ w3.heap.size i _ (by omega)).trans (this.block i hi hne)⟩
 have gs1:GsA w ((w3.alloc (.cells iw 54)).setRow w3.heap.size (aV ⟨ph,p,a,0,0,comm,exe⟩ ⟨0,0,⟨none,0,0⟩,au,z,⟨Ap,np,cp⟩,⟨Ag,ng,cg⟩⟩ (.slice none 0 0))) w3.heap.size ⟨0,0,⟨none,0,0⟩,au,z,⟨Ap,np,cp⟩,⟨Ag,ng,cg⟩⟩:=by
  have g0:GsA w (w3.alloc (.cells iw 54)) w3.heap.size ⟨0,0,⟨none,0,0⟩,au,z,⟨Ap,np,cp⟩,⟨Ag,ng,cg⟩⟩:=⟨gs,hgl,hgz,(NC.mono (by have:=hr2.lt;omega)).alloc _,fun q e=>(World.ownsRow.lt NC q e).2⟩;exact g0.far (row:=some w3.heap.size) ⟨rfl,rfl,rfl,by rw [setRow_size];exact Nat.le_refl _,fun i _ hne=>setRow_other _ w3.heap.size i _ (fun e=>hne (by rw [e]))⟩ (fun q e=> .inr (by injection e with e;omega))
 have st1:K1A w ((w3.alloc (.cells iw 54)).setRow w3.heap.size (aV ⟨ph,p,a,0,0,comm,exe⟩ ⟨0,0,⟨none,0,0⟩,au,z,⟨Ap,np,cp⟩,⟨Ag,ng,cg⟩⟩ (.slice none 0 0))) base g (b+300) w3.heap.size ⟨ph,p,a,0,0,comm,exe⟩ ⟨0,0,⟨none,0,0⟩,au,z,⟨Ap,np,cp⟩,⟨Ag,ng,cg⟩⟩ (.slice none 0 0):=
  ⟨RN,RL.more (by omega),(hr3.alloc _).aS _ (by omega),HG0.row _,hw3,rz,hbase,gs1⟩
 clear gs1;clear RJ NC hs hg hs2 ho2 hr2 ho3 hr3 RL RN;have HG:=Hd HG0;clear HG0;go_wp2_with ((with_reducible refine ae ?_ 54 (.tmp 3) (.tmp 11) ?_ HG.o (aV ⟨ph,p,a,0,0,comm,exe⟩ ⟨0,0,⟨none,0,0⟩,au,z,⟨Ap,np,cp⟩,⟨Ag,ng,cg⟩⟩ (.slice none 0 0)) ?_ ?_ ?_ ?_ ?_ ?_);(iterate 4 rfl);(exact dK _ _ _);(exact vH _ _ _);(exact qK _ _ _ _ _));clear HN HG;generalize hcx:(⟨ph,p,a,0,0,comm,exe⟩:Ctx)=c0 at *;have HPH:Hid (c0.ph=ph):=Hd (by rw [← hcx]);clear hcx;generalize (⟨0,0,⟨none,0,0⟩,au,z,⟨Ap,np,cp⟩,⟨Ag,ng,cg⟩⟩:aN)=r0 at *;generalize (w3.alloc (.cells iw 54)).setRow w3.heap.size (aV c0 r0 (.slice none 0 0))=w4 at *;generalize w3.heap.size=gc at *;refine (bG _ base g (b+300) 4 st1.src (by have:=HB.o;omega) (by omega) (by omega)).mono ?_;rintro e w5 ⟨n4,rfl,n40,n41,hs,hg⟩;have st5:=st1.step hs hg;clear hs hg st1;go_upto_if 14 with fail;go_cut [] (fun wx=>∃ c1:Ctx,(c1.ph=1∨c1.ph=2)∧K1A w wx base g (b+300+1) gc c1 r0 (.slice none 0 0));case first=>
  have q0:=aR.ph st5.cb;have f0:=st5.cb.free 0;by_cases hn4:0 < n4
  · go_wp2_with fail;go_meet;exact ⟨_, .inr rfl,st5.ph 2⟩
  · go_wp2_with fail;go_meet;exact ⟨c0,by rw [HPH.o];omega,st5⟩
 case rest=>
 obtain ⟨c1,hph,I9⟩:=hcut;generalize wc=wa at *;clear st5;have q0:=aR.ph I9.cb;go_upto_if 18 with fail;go_cut [] (fun wx=>∃ (c2:Ctx) (it:Value) (L:List (Itm×aD)),L.length≤2∧iW wx (gc+1) it L∧K1A w wx base g (b+310+40 * L.length) gc c2 r0 it);case first=>
  by_cases hp:c1.ph=2
  · have bp:(c1.ph == 2)=true:=(by simpa using hp);go_wp2_with fail;clear q0 bp;refine (aF _ base g wa.heap.size (b+300+1) 6 (-13) 3 _ 3 (0,0) (I9.src.alloc _) (by have:=HB.o;omega) (heap_alloc_new wa _) (by have:=aW I9.src;omega) rfl (by omega) (by omega) rfl).mono ?_;rintro e w6 ⟨ex,rfl,_,_,hs,hg⟩;have st6:=(I9.alloc (.cells #[.int .i64 0, .int .i64 0, .int .i64 3, .int .i64 (-1), .int .i64 (-2), .int .i64 (-13)] 3)).step hs hg;clear hs hg I9;have q22:=aR.ex st6.cb;have f22:=st6.cb.free 22;have st7:=st6.ex ex;go_wp2_with fail;clear q22 f22 st6;generalize w6.setCell ⟨gc,22,none⟩ (.int .i64 ex)=w7 at *;refine (bG _ base g (b+300+1+1) 3 st7.src (by have:=HB.o;omega) (by omega) (by omega)).mono ?_;rintro e w8 ⟨kz,rfl,k0,k1,hs,hg⟩;obtain ⟨kn,rfl⟩:=Int.eq_ofNat_of_zero_le k0;have st8:=st7.step hs hg;clear hs hg st7;go_wp2_with fail;go_loopw [4] (fun i wr=>∃ (k:Nat) (it:Value) (L:List (Itm×aD)),i= .int .i64 (k:Int)∧L.length+k≤2∧iW wr (gc+1) it L∧K1A w wr base g (b+310+40 * L.length) gc _ r0 it) (fun i _=>(intOf i).toNat);case atStart=>exact ⟨kn,_, [],rfl,by simp;omega,iW.nil _ _,st8.more (by simp;omega)⟩
    case round=>
     obtain ⟨k,it,L,rfl,hlen,hown,hst⟩:=hrel;clear st8 k0 k1;by_cases hk:0 < k
     · have hk1:(0:Int) < (k:Int):=(by omega);have q23:=aR.items hst.cb;have hgc:=hst.cb.lt;go_wp2_with fail
       go_region_law
        (first
         | (go_simp;go_at_call 62;refine (Ep _ base g (b+310+40 * L.length) (by exact hst.src.drew) (by have:=HB.o;omega)).mono ?_;rintro e w13 ⟨i,r,rfl,hs3,hg3⟩;have st3:=hst.drew.step hs3 hg3;have yI:=iW.only (w:=wr.drew) hown hg3 (by have:=hst.h2;have:=hst.h3;omega);have qs:=Ez i r;have qf:=Be i r;have qA:=aR.items st3.cb;have qC:=aR.items (st3.alloc (.cells (az i r) 73)).cb;go_simp)
         | (refine lV (by rfl) (.tmp 30) (.tmp 33) (by rfl) (gc+1) it L (by rfl) (by exact yI.alloc _) ⟨w13.heap.size,0,none⟩ i r (by rfl) (by exact Il w13 (az i r) 73) (by omega) (by have:=st3.cb.lt;simp;omega) ?_;intro v4 w4 nH hg4 xP;obtain ⟨g4,c4,hv4⟩:=Joins.ownsRow_form nH (by simp);subst hv4;have st4:=(st3.alloc (.cells (az i r) 73)).grown hg4 (fun r hr=>by have:=yI.ge r hr;omega);have qB:=aR.items st4.cb;have fB:=st4.cb.free 23))
       all_goals
        simp only [List.length_append,List.length_cons,List.length_nil,Nat.zero_add] at nH;have st5:=st4.sit (.slice (some ⟨g4,0,none⟩) (L.length+1) c4);have Bd:=nH.setCell (p:=⟨gc,23,none⟩) (by show gc < gc+1;omega) (.slice (some ⟨g4,0,none⟩) (L.length+1) c4);clear q23 qs qf qA qB qC fB yI nH st3 st4 hown hst hg3 hs3 hg4 xP;go_wp2_with fail;go_roundw;case rel=>exact ⟨k - 1,_,L ++ [(i,r)],by go_num,by simp;omega,Bd,st5.more (by simp;omega)⟩
        case measure=>simp [intOf];omega
     · obtain rfl:k=0:=(by omega);go_wp2_with fail;go_meet;exact ⟨_,it,L,by omega,hown,hst⟩
  · have bp:(c1.ph == 2)=false:=(by simpa using hp);go_wp2_with fail;go_meet;exact ⟨c1,_, [],by simp,iW.nil _ _,I9.more (by simp;omega)⟩
 case rest=>
 obtain ⟨c2,it,L,hL2,own,st⟩:=hcut;obtain ⟨Ai,ni,ci,rfl⟩:=Ey own;generalize wc=wb at *;clear I9 q0;go_wp2_with fail;refine (bG _ base g (b+310+40 * L.length) 6 st.src (by have:=HB.o;omega) (by omega) (by omega)).mono ?_;rintro e w10 ⟨y,rfl,y0,y1,hs,hg⟩;have mK:=st.step hs hg;have Ja:=own.only hg (by have:=st.h2;have:=st.h3;omega);clear hs hg st own;go_upto_if 38 with fail;go_cut [] (fun wx=>∃ c3:Ctx,K1A w wx base g (b+500) gc c3 r0 (.slice Ai ni ci)∧iW wx (gc+1) (.slice Ai ni ci) L);case first=>
  by_cases hy:y=5
  · subst hy;go_wp2_with fail;refine (aF _ base g w10.heap.size ((b+310+40 * L.length)+1) 4 0 2000 _ 3 (0,0) (mK.src.alloc _) (by have:=HB.o;omega) (heap_alloc_new w10 _) (by have:=aW mK.src;omega) rfl (by omega) (by omega) rfl).mono ?_;rintro e w11 ⟨ty,rfl,_,_,hs,hg⟩;have jK:=(mK.alloc (.cells #[.int .i64 1300, .int .i64 1302, .int .i64 1307, .int .i64 1005] 3)).step hs hg;have Qe:=(Ja.alloc (.cells #[.int .i64 1300, .int .i64 1302, .int .i64 1307, .int .i64 1005] 3)).only hg (by have:=mK.h2;have:=mK.h3;omega);clear hs hg mK Ja;have q24:=aR.ty jK.cb;have f24:=jK.cb.free 24;have Lb:=Qe.setCell (p:=⟨gc,24,none⟩) (by show gc < gc+1;omega) (.int .i64 ty);go_wp2_with fail;go_meet;exact ⟨_,(jK.ty ty).more (by omega),Lb⟩
  · have yb:(y == 5)=false:=(by simpa using hy);go_wp2_with fail;go_meet;exact ⟨c2,mK.more (by omega),Ja⟩
 case rest=>
 obtain ⟨c3,stE,Lb⟩:=hcut;have HCB:=Hd stE.cb;have HRB:=Hd stE.rb;go_wp2_with (first | ((with_reducible refine aP ?_ 54 (.tmp 3) ?_ HCB.o ?_ _ Tryz.underlying54 ?_ ?_ ?_);(iterate 4 rfl);exact dK _ _ _) | ((with_reducible refine ae ?_ 54 (.tmp 2) (.tmp 43) ?_ HRB.o (aV c3 r0 (.slice Ai ni ci)) ?_ ?_ ?_ ?_ ?_ ?_);(iterate 4 rfl);(exact dK _ _ _);(exact vH _ _ _);(exact qK _ _ _ _ _)));refine bodyPost_ret (Io Tryz.func21 rfl _ _ w.heap.size _ _ _ rfl (stE.rb.row _)) rfl ?_;exact EY stE (by omega) hL2 Lb
end Go.Proofs.YtollifnnpihfdaaGreatDoor
namespace Go.Proofs.YtollifnnpihfdaaGreatDoor
open Go.RowKit
def TU (ds:List Dm) (dev ino:Int) (w:World) (e:Ending) (w' :World):Prop:=
 ((aG (ds.map Dm.dv) dev ino=none∧e= .returned (.pointer none))∨
  ∃ (x:Nm) (ad:Addr),aG (ds.map Dm.dv) dev ino=some x.nd∧e= .returned (.pointer (some ad))∧ad.block < w.heap.size∧(∀ j,j < 8→w.cell? (ad.add j)=(ENd.C x)[j]?)∧AtE EEn w w.heap.size x.A x.nd.es∧jU x.nd)∧Below w.heap.size w w'
theorem MC (dev ino:Int) (ds:List Dm) (A:Option Addr) (n c:Nat) (hn:n=ds.length) (w:World) (h:bR w w.heap.size A ds):
   Calls Tryz.prog 223 #[fsV A n c,flV dev ino] w (TU ds dev ino w):=by
 have HN:=Hd hn;have HB:=Hd (show Below w.heap.size w ((w.alloc (.cells #[.slice A n c] 28)).alloc (.cells #[.int .i64 dev, .int .i64 ino] 44)) from ((Below.refl w.heap.size w).alloc (Nat.le_refl _) _).alloc (by simp) _);have HF:=Hd (h.below HB.o);have HF0:=Hd h;clear h hn;by_cases h0:dev < 0
 · have HR:=Hd (show aG (ds.map Dm.dv) dev ino=none by unfold aG;rw [jV (.inl h0)];rfl);go_in;go_wp2_with fail;go_ret;exact ⟨.inl ⟨HR.o,rfl⟩,HB.o⟩
 have h0' :¬ dev < 0:=h0;by_cases h1:(n:Int)≤dev
 · have HR:=Hd (show aG (ds.map Dm.dv) dev ino=none by unfold aG;rw [jV (.inr (by rw [← HN.o];exact h1))];rfl);go_in;go_wp2_with fail;go_ret;exact ⟨.inl ⟨HR.o,rfl⟩,HB.o⟩
 obtain ⟨k,rfl⟩:∃ k:Nat,dev=k:=⟨dev.toNat,by omega⟩;have hk:k < ds.length:=by rw [← HN.o];omega
 have k1:(k:Int) < (n:Int):=by omega
 have k2:(0:Int)≤(k:Int):=by omega
 have HI:=Hd (show aG (ds.map Dm.dv) (k:Int) ino=(ds[k].xs.map (·.nd)).find? (fun n=>n.ino == ino) by
   unfold aG;rw [eG (by omega) (by rw [Int.toNat_natCast];exact hk)];rfl)
 have HD:=Hd (HF.o.nodes ds[k] (List.getElem_mem hk));have HD0:=Hd (HF0.o.nodes ds[k] (List.getElem_mem hk));have HE0:=Hd (HF0.o.cO ds[k] (List.getElem_mem hk));obtain ⟨ad,rfl,hab,hcx⟩:=HF.o.at_ k hk;obtain ⟨s0,s1⟩:=bO (a:=ad.add (k * 2)) hcx;clear hcx h0 h1;generalize ds[k]=d at *;go_in;go_wp2_with fail;generalize hW:(w.alloc (.cells #[.slice (some ad) n c] 28)).alloc (.cells #[.int .i64 (k:Int), .int .i64 ino] 44)=W at *;have q1:W.cell? ⟨w.heap.size+1,1,none⟩=some (.int .i64 ino):=by
   rw [← hW];have:=(Blk.new (w.alloc (.cells #[.slice (some ad) n c] 28)) #[.int .i64 (k:Int), .int .i64 ino] 44).cell 1;simpa using this
 clear hW s0 s1;go_loopw [27] (fun i wr=>∃ j t:Nat,j≤d.xs.length∧i= .int .i64 j∧wr=W.drewN t∧∀ q (hq:q < j) (hl:q < d.xs.length),(d.xs[q].nd.ino == ino)=false) (fun i _=>d.xs.length - (intOf i).toNat);case atStart=>exact ⟨0,0,Nat.zero_le _,rfl,rfl,fun q hq=>by omega⟩
 case round=>
   obtain ⟨j,t,hj,rfl,rfl,hno⟩:=hrel;have HNO:=Hd hno;clear hno;by_cases hlt:j < d.xs.length
   · have j1:(j:Int) < (d.xs.length:Int):=(by omega);have j2:(0:Int)≤(j:Int):=(by omega);have j3:=HD.o.2;have w1:wrap64 ((j:Int)+1)=(j:Int)+1:=IntWalk.wrap64_in _ (by omega);have w2:IntKind.i64.wrap ((j:Int)+1)=(j:Int)+1:=IntWalk.i64_in _ (by omega);obtain ⟨bd,hbd,hbb,hcy⟩:=HD.o.1 j hlt;obtain ⟨bd',Qf,ql,RQ⟩:=HD0.o.1 j hlt;obtain rfl:bd=bd' :=(by rw [hbd] at Qf;injection Qf);have HC:=Hd (show ∀ q,q < 8→w.cell? ((bd.add (j * 8)).add q)=(ENd.C d.xs[j])[q]? from RQ);have HE:=Hd (HE0.o d.xs[j] (List.getElem_mem hlt));obtain ⟨t0,t1⟩:=dE (a:=bd.add (j * 8)) hcy;have HX:=Hd (fun h:(d.xs[j].nd.ino == ino)=true=>show (d.xs.map (·.nd)).find? (fun n=>n.ino == ino)=some d.xs[j].nd by
      rw [List.find?_eq_some_iff_getElem];exact ⟨h,j,by simpa using hlt,by simp,fun q hq=>by have:=HNO.o q hq (by omega);simpa using this⟩)
     have HY:=Hd (fun h:(d.xs[j].nd.ino == ino)=false=>show ∀ q (hq:q < j+1) (hl:q < d.xs.length),(d.xs[q].nd.ino == ino)=false from fun q hq hl=>by
      by_cases he:q=j
      · subst he;exact h
      · exact HNO.o q (by omega) hl)
     clear hcy RQ Qf t1 HNO;generalize d.xs[j]=x at *;rw [hbd];cases hb:(x.nd.ino == ino) with
     | true=>
      have HR:=Hd (HX.o hb);go_upto_region 7 with fail;go_quiet (fail);go_wp2_with fail;go_ret;exact ⟨.inr ⟨x,bd.add (j * 8),HI.o.trans HR.o,rfl,by rw [aj];exact ql,HC.o,HE.o.1,HE.o.2⟩,by first | exact below_drewN HB.o _ | exact below_drewN (below_drewN HB.o _) _⟩
     | false=>
      have HR:=Hd (HY.o hb);go_upto_region 7 with fail;go_quiet (fail);go_wp2_with fail;go_roundw;case rel=>exact ⟨j+1,_,by omega,by go_num,rfl,HR.o⟩
      case measure=>simp [intOf];omega
   · have j1:¬ (j:Int) < (d.xs.length:Int):=(by omega);have HR:=Hd (show (d.xs.map (·.nd)).find? (fun n=>n.ino == ino)=none by
      rw [List.find?_eq_none];intro y hy;obtain ⟨z,hz,rfl⟩:=List.mem_map.1 hy;obtain ⟨q,hq,rfl⟩:=List.getElem_of_mem hz;rw [HNO.o q (by omega) hq];decide)
     go_wp2_with fail;go_ret;exact ⟨.inl ⟨HI.o.trans HR.o,rfl⟩,below_drewN HB.o _⟩
theorem Cf:1000 * 1000000≤281474976710656:=by decide
theorem nV {α:Type} (E:El α) {ops:Array Oper} {rest:List Oper} {o:Oper} {a:Act} {w:World} {Q:Exit→Act→World→Prop} (hgd:o.guard=none) (x:Operand) (ho:o.op= .makeSlice E.sl (.const (.int .i64 0)) x) (n:Nat) (hx:a.eval x= .int .i64 (n:Int)) (hn:n≤1000000) (base:Nat) (hbase:base≤w.heap.size)
  (h:∀ v' w',ax E w' base v' []→w.grownBy w' none→v' = .slice (some ⟨w.heap.size,0,none⟩) 0 n→wpList Tryz.prog ops Q rest (a.put o.dst v') w'):wpList Tryz.prog ops Q (o :: rest) a w:=by
 obtain ⟨i0,z,hi,hz,hs,hb,hzs⟩:=E.info;have hsm:i0.bytes * n≤281474976710656:=Nat.le_trans (Nat.mul_le_mul (by rw [hb];exact E.small) hn) Cf;exact wpList_make_own w hgd (.const (.int .i64 0)) x E.sl ho base E.e i0 z E.sz E.hu hi hz hs .i64 .i64 (n:Int) n rfl hx rfl hsm (by unfold maxLen;omega) hbase (fun w' h1 h2=>h _ w' h1 h2 rfl)
abbrev enC (x:En):Array Value:=#[.string x.nm, .int .i64 x.ino]
theorem Qg (x:En):(Tryz.prog.info? 209).map (·.size)=some (enC x).size:=by show _=some 2;kernel_rfl
def ME (v:Value) (w:World) (e:Ending) (w' :World):Prop:=e= .returned v∧Below w.heap.size w w'
theorem Jb {fn:Func} (h:fn.results=#[.cell 2 209]) (tmps:Array Value) (w:World) (g:Nat) (x:En) (hp:tmps.getD 2 undef= .pointer (some ⟨g,0,none⟩)) (hg:Blk w g 209 (enC x)):
  (results fn tmps).run Tryz.prog w= .ok (.agg (enC x)) w:=
 results_cell_row h tmps w g _ (enC x) (0,0) _ hp hg Tryz.underlying209 rfl (Qg x)
theorem Jc {fn:Func} (h:fn.results=#[.cell 2 145]) (tmps:Array Value) (w:World) (g:Nat) (n:Nd) (v:Value) (hp:tmps.getD 2 undef= .pointer (some ⟨g,0,none⟩)) (hg:Blk w g 145 (ndC n v)):
  (results fn tmps).run Tryz.prog w= .ok (.agg (ndC n v)) w:=
 results_cell_row h tmps w g _ (ndC n v) (0,0) _ hp hg Tryz.underlying145 rfl (iU n v)
theorem MF (x:En) (w:World):Calls Tryz.prog 260 #[.agg (enC x)] w (ME (.agg (enC x)) w):=by
 go_in;go_wp2_with fail;refine bodyPost_ret (Jb (fn:=Tryz.f260) rfl _ _ (w.heap.size+1) x rfl (by first | exact Blk.row (by have:=Blk.new (w.alloc (.cells (enC x) 209)) (enC ⟨⟨#[]⟩,0⟩) 209;simpa using this) _ | (have:=Blk.new (w.alloc (.cells (enC x) 209)) (enC x) 209;simpa using this))) rfl ?_;exact ⟨rfl,by first | exact ((Below.refl _ _).alloc (Nat.le_refl _) _).alloc (by simp) _ | exact ak (((Below.refl _ _).alloc (Nat.le_refl _) _).alloc (by simp) _) (by simp) _⟩
def TV (L:List En) (w:World) (e:Ending) (w' :World):Prop:=∃ (A:Option Addr) (c:Nat),e= .returned (.slice A L.length c)∧ax EEn w' w.heap.size (.slice A L.length c) L∧Below w.heap.size w w'
theorem Jd (L:List En) (A:Option Addr) (n c:Nat) (hn:n=L.length) (hl:n≤1000) (w:World) (h:AtE EEn w w.heap.size A L):
   Calls Tryz.prog 259 #[.slice A n c, .func (.func 260) #[] #[]] w (TV L w):=by
 have HN:=Hd hn;have HA:=Hd h;have HL:=Hd hl;clear h hn hl;go_in;by_cases h0:n=0
 · have b0:=(dY (show (n:Int)=0 by omega)).1;have hL:L= []:=List.eq_nil_of_length_eq_zero (by have:=HN.o;omega);go_wp2_with fail;go_ret;subst hL;exact ⟨none,0,rfl,ax.nil _ _,Below.refl _ _⟩
 · have b0:=(bT (show (n:Int)≠0 by omega)).1;go_wp2_with (at_make;refine nV EEn rfl (.tmp 12) rfl n rfl (by have:=HL.o;omega) w.heap.size (Nat.le_refl _) ?_);intro v1 w1 ho1 hg1 hv1;subst hv1;have B1:=Hd ((Below.refl w.heap.size w).grown hg1 (Nat.le_refl _) (fun k e=>by cases e));have O1:=Hd ho1;clear ho1 hg1;go_wp2_with fail;go_loopw [5,16] (fun v i wr=>∃ (k:Nat) (A0:Option Addr) (n0 c0:Nat),k≤n∧v= .slice A0 n0 c0∧i= .int .i64 (k:Int)∧Hid (ax EEn wr w.heap.size (.slice A0 n0 c0) (L.take k))∧Hid (Below w.heap.size w wr)) (fun _ i _=>n - (intOf i).toNat);case atStart=>exact ⟨0,_,_,_,Nat.zero_le _,rfl,rfl,O1,B1⟩
   case round=>
    clear O1 B1;obtain ⟨k,A0,n0,c0,hk,rfl,rfl,HO,HB⟩:=hrel;by_cases hlt:k < n;case pos=>
     have hkl:k < L.length:=(by have:=HN.o;omega);have k0:(0:Int)≤(k:Int):=(by omega);have kn:(k:Int) < (n:Int):=(by omega);obtain ⟨q7,q8⟩:=bW (show k≤1000000 by have:=HL.o;omega) (Nat.le_refl _);obtain ⟨ad,rfl,hab,hcx⟩:=(HA.o.keep HB.o (Nat.le_refl _)) k hkl;obtain ⟨s0,s1⟩:=iB (a:=ad.add (k * 2)) hcx;have HT:=Hd (show L.take (k+1)=L.take k ++ [L[k]] from by rw [List.take_add_one,List.getElem?_eq_getElem hkl];rfl);have HTL:=Hd (show (L.take k).length=k by rw [List.length_take];omega);clear hcx;generalize L[k]=x at *;have X1:=Hd (Blk.new wr (enC x) 209);have B1:=Hd (HB.o.alloc HB.o.size (.cells (enC x) 209));have O1:=Hd (HO.o.alloc (.cells (enC x) 209));clear HO HB;go_upto_region 7 with fail;clear s0 s1;generalize wr.alloc (.cells (enC x) 209)=w2 at *;have x0:=X1.o.cell 0;have x1:=X1.o.cell 1;go_wp2_with fail;refine (MF x w2).mono ?_;rintro e w3 ⟨rfl,hb⟩;have B3:=Hd ((aa B1.o hb).alloc (aa B1.o hb).size (.cells (enC x) 209));have O3:=Hd ((O1.o.below hb).alloc (.cells (enC x) 209));have RW:=Hd (aM EEn w3 (enC x) 209 x rfl (Nat.lt_succ_self w3.heap.size));clear hb x0 x1 B1 O1 X1;go_wp2_with (at_builtin;refine ah EEn rfl (.tmp 20) (.tmp 24) rfl w.heap.size (.slice A0 n0 c0) (L.take k) rfl O3.o (w3.heap.size+1) (some ⟨w3.heap.size,0,none⟩) 1 1 [x] rfl rfl RW.o (by rw [HTL.o];have:=HL.o;simp;omega) B3.o.size ?_);intro v6 w6 ho6 hg6 gL;have B6:=Hd (B3.o.grown hg6 B3.o.size (fun q e=>O3.o.ge q e));rw [← HT.o] at ho6;obtain ⟨A6,c6,e6,_⟩:=ho6.at;subst e6;have O6:=Hd ho6;clear ho6 hg6 gL;go_wp2_with fail;go_roundw;case rel=>exact ⟨k+1,_,_,_,by omega,rfl,by go_num,O6,B6⟩
     case measure=>simp [intOf];omega
    case neg=>
     obtain rfl:k=n:=(by omega);have kn:¬ (k:Int) < (k:Int):=(by omega);have hT:L.take k=L:=(by rw [HN.o];exact List.take_length);rw [hT] at HO;obtain ⟨A5,c5,e5,_⟩:=HO.o.at;injection e5 with h1 h2 h3;subst h1 h2 h3;go_wp2_with fail;go_ret;exact ⟨_,_,rfl,HO.o,HB.o⟩
def NcP (nd:Nd) (w:World) (e:Ending) (w' :World):Prop:=∃ (A:Option Addr) (c:Nat),e= .returned (.agg (ndC nd (.slice A nd.es.length c)))∧ax EEn w' w.heap.size (.slice A nd.es.length c) nd.es∧Below w.heap.size w w'
theorem MG (nd:Nd) (A:Option Addr) (n c:Nat) (hn:n=nd.es.length) (hl:n≤1000) (w:World) (h:AtE EEn w w.heap.size A nd.es):
  Calls Tryz.prog 224 #[.agg (ndC nd (.slice A n c))] w (NcP nd w):=by
 have B0:=Hd (((Below.refl w.heap.size w).alloc (Nat.le_refl _) (.cells (ndC nd (.slice A n c)) 145)).alloc (by simp) (.cells ndZ 145));have X0:=Hd ((Blk.new w (ndC nd (.slice A n c)) 145).alloc (.cells ndZ 145));have R0:=Hd (show Blk ((w.alloc (.cells (ndC nd (.slice A n c)) 145)).alloc (.cells ndZ 145)) (w.heap.size+1) 145 ndZ by
  have h:=Blk.new (w.alloc (.cells (ndC nd (.slice A n c)) 145)) ndZ 145;simpa using h)
 have H0:=Hd ((h.keep B0.o (Nat.le_refl _)).more B0.o.size);have HN:=Hd hn;have HL:=Hd hl;clear h hn hl;go_in;go_upto_region 1 with fail;generalize (w.alloc (.cells (ndC nd (.slice A n c)) 145)).alloc (.cells ndZ 145)=w1 at *;have n7:=X0.o.cell 7;go_wp2_with fail;refine (Jd nd.es A n c HN.o HL.o w1 H0.o).mono ?_;rintro e w2 ⟨A2,c2,rfl,ho,hb⟩;have B2:=Hd (aa B0.o hb);have X2:=Hd (X0.o.below hb);have R2:=Hd (R0.o.below hb);have O2:=Hd (ho.low B0.o.size);have HW:=Hd B0.o.size;clear n7 ho B0 X0 R0 H0;have n7:=X2.o.cell 7;have f7:=X2.o.free 7;have XP:=Hd (show Blk (w2.setCell ⟨w.heap.size,7,none⟩ (.slice A2 nd.es.length c2)) w.heap.size 145 (ndC nd (.slice A2 nd.es.length c2)) from X2.o.put 7 _);have RP:=Hd (R2.o.af (.slice A2 nd.es.length c2) (show w.heap.size+1≠(⟨w.heap.size,7,none⟩:Addr).block from by simp));have BP:=Hd (B2.o.setCell (p:=⟨w.heap.size,7,none⟩) (Nat.le_refl _) (.slice A2 nd.es.length c2));have OP:=Hd (O2.o.bD (g:=w.heap.size) (i:=7) (ay O2.o X2.o (by decide)) (.slice A2 nd.es.length c2));go_upto_region 2 with fail;clear n7 f7 X2 R2 B2 O2;generalize w2.setCell ⟨w.heap.size,7,none⟩ (.slice A2 nd.es.length c2)=w3 at *;have c0:=XP.o.cell 0;have c1:=XP.o.cell 1;have c2' :=XP.o.cell 2;have c3:=XP.o.cell 3;have c4:=XP.o.cell 4;have c5:=XP.o.cell 5;have c6:=XP.o.cell 6;have c7:=XP.o.cell 7;go_wp2_with ((with_reducible refine ae ?_ 145 (.tmp 2) (.tmp 7) ?_ RP.o (ndC nd (.slice A2 nd.es.length c2)) ?_ ?_ ?_ ?_ ?_ ?_);(iterate 4 rfl);(exact iU _ _);rfl;(exact jW _ _ _ _));refine bodyPost_ret (Jc (fn:=Tryz.f224) rfl _ _ (w.heap.size+1) nd (.slice A2 nd.es.length c2) rfl (Blk.row RP.o _)) rfl ?_;exact ⟨A2,c2,rfl,OP.o.mE (ay OP.o RP.o (by decide)) _,ak BP.o (by omega) _⟩
theorem MH (dev ino:Int) (ds:List Dm) (A:Option Addr) (n c:Nat) (hn:n=ds.length) (w:World) (h:bR w w.heap.size A ds):
   Calls Tryz.prog 158 #[fsV A n c,flV dev ino] w (vU (aG (ds.map Dm.dv) dev ino) w):=by
 have HN:=Hd hn;have hs1:(w.alloc (.cells #[.slice A n c] 28)).heap.size=w.heap.size+1:=by simp
 have hs2:((w.alloc (.cells #[.slice A n c] 28)).alloc (.cells #[.int .i64 dev, .int .i64 ino] 44)).heap.size=w.heap.size+1+1:=by simp
 have B0:=Hd (show Below w.heap.size w (((w.alloc (.cells #[.slice A n c] 28)).alloc (.cells #[.int .i64 dev, .int .i64 ino] 44)).alloc (.cells ndZ 145)) from
   (((Below.refl w.heap.size w).alloc (Nat.le_refl _) _).alloc (by rw [hs1];omega) _).alloc (by rw [hs2];omega) _)
 have F0:=Hd (h.below B0.o);have R0:=Hd (show Blk (((w.alloc (.cells #[.slice A n c] 28)).alloc (.cells #[.int .i64 dev, .int .i64 ino] 44)).alloc (.cells ndZ 145)) (w.heap.size+1+1) 145 ndZ by
   have h:=Blk.new ((w.alloc (.cells #[.slice A n c] 28)).alloc (.cells #[.int .i64 dev, .int .i64 ino] 44)) ndZ 145;rw [hs2] at h;exact h)
 clear h hn hs1 hs2;go_in;go_wp2_with fail;generalize (((w.alloc (.cells #[.slice A n c] 28)).alloc (.cells #[.int .i64 dev, .int .i64 ino] 44)).alloc (.cells ndZ 145))=w1 at *;refine (MC dev ino ds A n c HN.o w1 F0.o).mono ?_;rintro e w2 ⟨⟨hq,rfl⟩ | ⟨x,ad,hq,rfl,hab,hcx,hes,hsz⟩,hb⟩
 · have R2:=Hd (R0.o.below hb);have B2:=Hd (B0.o.trans (hb.mono B0.o.size));have HQ:=Hd hq;clear hq hb;go_wp2_with ((with_reducible refine ae ?_ 145 (.tmp 4) (.tmp 12) ?_ R2.o ndZ ?_ ?_ ?_ ?_ ?_ ?_);(iterate 4 rfl);(exact iU zNd _);rfl;(exact jW zNd _ _ _));refine bodyPost_ret (pQ (fn:=Tryz.f158) rfl _ _ (w.heap.size+1+1) zNd (.slice none 0 0) rfl (Blk.row R2.o _)) rfl ?_;rw [HQ.o];exact ⟨rfl,ak B2.o (by omega) _⟩
 · obtain ⟨t0,t1,t2,t3,t4,t5,t6,t7⟩:=dE (a:=ad) (fun j hj=>(hb.cell (by rw [aj];exact hab)).trans (hcx j hj));have R2:=Hd (R0.o.below hb);have B2:=Hd (B0.o.trans (hb.mono B0.o.size));have E2:=Hd (hes.below hb);have HQ:=Hd hq;have HSZ:=Hd hsz;have HLW:=Hd (show w.heap.size≤w2.heap.size from B2.o.size);clear hq hb hcx hes hsz hab;go_wp2_with fail;refine (MG x.nd x.A x.nd.es.length x.c rfl HSZ.o.1 w2 E2.o).mono ?_;rintro e w3 ⟨A3,c3,rfl,ho,hb⟩;have R3:=Hd (R2.o.below hb);have B3:=Hd (aa B2.o hb);have O3:=Hd (ho.low HLW.o);clear ho hb t0 t1 t2 t3 t4 t5 t6 t7;go_wp2_with ((with_reducible refine ae ?_ 145 (.tmp 4) (.tmp 16) ?_ R3.o (ndC x.nd (.slice A3 x.nd.es.length c3)) ?_ ?_ ?_ ?_ ?_ ?_);(iterate 4 rfl);(exact iU _ _);rfl;(exact jW _ _ _ _));refine bodyPost_ret (pQ (fn:=Tryz.f158) rfl _ _ (w.heap.size+1+1) x.nd (.slice A3 x.nd.es.length c3) rfl (Blk.row R3.o _)) rfl ?_;rw [HQ.o];exact ⟨A3,c3,rfl,O3.o.mE (ay O3.o R3.o (by decide)) _,ak B3.o (by omega) _,HSZ.o⟩
def jA (f:List Dv) (dev ino:Int):Nd:=(aG f dev ino).getD zNd
theorem EZ (f:List Dv) (dev ino:Int):dz f dev ino=((aG f dev ino).isSome && (jA f dev ino).kind == 2):=by
 unfold dz jA;cases aG f dev ino <;> rfl
theorem Qh (f:List Dv) (dev ino:Int):fT f dev ino=qx (jA f dev (jA f dev ino).par).es ino:=by
 have e:upF f dev ino=(jA f dev ino).par:=by
  unfold upF jA;cases aG f dev ino <;> rfl
 rw [wS,e];generalize (jA f dev ino).par=q;unfold jA;cases aG f dev q <;> rfl
def NdP (f:List Dv) (dev ino:Int) (w:World) (e:Ending) (w' :World):Prop:=
 ∃ (A:Option Addr) (c:Nat),e= .returned (.tuple #[.agg (ndC (jA f dev ino) (.slice A (jA f dev ino).es.length c)), .bool (aG f dev ino).isSome])∧AtE EEn w' w'.heap.size A (jA f dev ino).es∧(jA f dev ino).es.length≤1000∧Below w.heap.size w w'
theorem Cg (dev ino:Int) (ds:List Dm) (A:Option Addr) (n c:Nat) (hn:n=ds.length) (w:World) (h:bR w w.heap.size A ds):
  Calls Tryz.prog 158 #[fsV A n c,flV dev ino] w (NdP (ds.map Dm.dv) dev ino w):=by
 refine (MH dev ino ds A n c hn w h).mono ?_;intro e w' hp;unfold NdP jA;cases hq:aG (ds.map Dm.dv) dev ino with
 | none=>
  rw [hq] at hp;obtain ⟨rfl,hb⟩:=hp;exact ⟨none,0,rfl,AtE.nil,Nat.zero_le _,hb⟩
 | some nd=>
  rw [hq] at hp;obtain ⟨A2,c2,rfl,ho,hb,hs⟩:=hp;exact ⟨A2,c2,rfl,bB ho,hs.1,hb⟩
theorem Gh (dev ino:Int) (ds:List Dm) (A:Option Addr) (n c:Nat) (hn:n=ds.length) (v:Value) (w:World) (h:bR w w.heap.size A ds):
  Calls Tryz.prog 95 #[.agg #[slV A n c,v],flV dev ino] w (ME (.bool (dz (ds.map Dm.dv) dev ino)) w):=by
 have HN:=Hd hn;have B0:=Hd (dI w #[slV A n c,v] #[.int .i64 dev, .int .i64 ino] 31 44);have F0:=Hd (h.below B0.o);have HD:=Hd (EZ (ds.map Dm.dv) dev ino);clear h hn;go_in;go_wp2_with fail;generalize (w.alloc (.cells #[slV A n c,v] 31)).alloc (.cells #[.int .i64 dev, .int .i64 ino] 44)=w0 at *;refine (Cg dev ino ds A n c HN.o w0 F0.o).mono ?_;rintro e w1 ⟨A1,c1,rfl,_,_,hb⟩;have B1:=Hd (B0.o.trans (hb.mono B0.o.size));clear hb;generalize jA (ds.map Dm.dv) dev ino=nd at *;have D1:=Hd (Blk.new w1 (ndC nd (.slice A1 nd.es.length c1)) 145);have B2:=Hd (B1.o.alloc B1.o.size (.cells (ndC nd (.slice A1 nd.es.length c1)) 145));go_upto_region 2 with fail;generalize w1.alloc (.cells (ndC nd (.slice A1 nd.es.length c1)) 145)=w2 at *;have d1:=D1.o.cell 1;cases ho:(aG (ds.map Dm.dv) dev ino).isSome with
 | false=>
  rw [ho] at HD;go_wp2_with fail;go_ret;exact ⟨by rw [HD.o];rfl,B2.o⟩
 | true=>
  rw [ho] at HD;go_wp2_with fail;go_ret;exact ⟨by rw [HD.o];rfl,B2.o⟩
theorem Ch (dev:Int) (u:Value) (ms:List Mt) (Am:Option Addr) (nm cm:Nat) (hn:nm=ms.length) (hl:nm≤1000) (w:World) (h:AtE EMt w w.heap.size Am ms):
  Calls Tryz.prog 159 #[.agg #[u,slV Am nm cm], .int .i64 dev] w (ME (.tuple #[flV (onR ms dev).1 (onR ms dev).2.1, .bool (onR ms dev).2.2]) w):=by
 have HN:=Hd hn;have HL:=Hd hl;have B0:=Hd (dI w #[u,slV Am nm cm] #[.int .i64 0, .int .i64 0] 31 44);have M0:=Hd (h.below B0.o);have V0:=Hd ((Blk.new w #[u,slV Am nm cm] 31).alloc (.cells #[.int .i64 0, .int .i64 0] 44));have R0:=Hd (show Blk ((w.alloc (.cells #[u,slV Am nm cm] 31)).alloc (.cells #[.int .i64 0, .int .i64 0] 44)) (w.heap.size+1) 44 #[.int .i64 0, .int .i64 0] by
  have h:=Blk.new (w.alloc (.cells #[u,slV Am nm cm] 31)) #[.int .i64 0, .int .i64 0] 44;simp only [World.size_alloc] at h;exact h)
 have HR:=Hd (show onR ms dev=match onF ms dev with | some (a,b)=>(a,b,true) | none=>(0,0,false) from rfl);clear h hn hl;go_in;go_upto_region 1 with fail;generalize (w.alloc (.cells #[u,slV Am nm cm] 31)).alloc (.cells #[.int .i64 0, .int .i64 0] 44)=w0 at *;have v1:=V0.o.cell 1;go_wp2_with fail;clear v1;go_loopw [11] (fun i wr=>∃ k:Nat,k≤ms.length∧i= .int .i64 k∧Hid (Below w0.heap.size w0 wr)∧Hid (∀ q (hq:q < k) (hql:q < ms.length),(ms[q].dev == dev)=false)) (fun i _=>ms.length - (intOf i).toNat);case atStart=>exact ⟨0,Nat.zero_le _,rfl,Hd (Below.refl _ _),Hd (fun q hq=>absurd hq (Nat.not_lt_zero q))⟩
 case round=>
  obtain ⟨k,hk,rfl,hbw,hno⟩:=hrel;have hn:=HN.o;have WK:=Hd (eB (q:=k) (by have:=HL.o;omega));have R1:=Hd (R0.o.below hbw.o);have B1:=Hd (aa B0.o hbw.o);have M1:=Hd (M0.o.below hbw.o);by_cases hlt:k < ms.length;case neg=>
   have k1:¬ (k:Int) < (nm:Int):=(by omega);have HR2:=Hd (HR.o.trans (by rw [FL (fun q hq=>hno.o q (by omega) hq)]));clear hno hn;go_wp2_with ((with_reducible refine ae ?_ 44 (.tmp 4) (.tmp 22) ?_ R1.o #[.int .i64 0, .int .i64 0] ?_ ?_ ?_ ?_ ?_ ?_);(iterate 4 rfl);(exact gK _ _);rfl;(exact dM _ _));refine bodyPost_ret (jd (fn:=Tryz.f159) rfl _ _ (w.heap.size+1) 0 0 rfl (Blk.row R1.o _)) rfl ?_;rw [HR2.o];exact ⟨rfl,ak B1.o (by omega) _⟩
  case pos=>
   have k1:(k:Int) < (nm:Int):=(by omega);have k2:(0:Int)≤(k:Int):=(by omega);obtain ⟨am,rfl,hab,hcx⟩:=M1.o k hlt;obtain ⟨m0,m1,m2⟩:=qw (a:=am.add (k * 3)) hcx;have HX:=Hd (fun h:(ms[k].dev == dev)=true=>FK hlt (fun q hq=>hno.o q hq (by omega)) h);have HY:=Hd (fun h:(ms[k].dev == dev)=false=>show ∀ q (hq:q < k+1) (hql:q < ms.length),(ms[q].dev == dev)=false from fun q hq hql=>by
    by_cases he:q=k
    · subst he;exact h
    · exact hno.o q (by omega) hql)
   clear hcx hno hn;generalize ms[k]=m at *;have X2:=Hd (Blk.new wr (mtC m) 199);have R2:=Hd (R1.o.alloc (.cells (mtC m) 199));have B2:=Hd (B1.o.alloc B1.o.size (.cells (mtC m) 199));have HB2:=Hd (hbw.o.alloc hbw.o.size (.cells (mtC m) 199));clear R1 B1 M1 hbw;go_upto_region 4 with fail;clear m0 m1 m2;generalize wr.alloc (.cells (mtC m) 199)=w2 at *;have x0:=X2.o.cell 0;have x1:=X2.o.cell 1;have x2:=X2.o.cell 2;cases hb:(m.dev == dev) with
   | true=>
    have HR2:=Hd (HR.o.trans (by rw [HX.o hb]));clear HX HY;go_wp2_with ((with_reducible refine ae ?_ 44 (.tmp 4) (.tmp 20) ?_ R2.o #[.int .i64 m.od, .int .i64 m.oi] ?_ ?_ ?_ ?_ ?_ ?_);(iterate 4 rfl);(exact gK _ _);rfl;(exact dM _ _));refine bodyPost_ret (jd (fn:=Tryz.f159) rfl _ _ (w.heap.size+1) m.od m.oi rfl (Blk.row R2.o _)) rfl ?_;rw [HR2.o];exact ⟨rfl,ak B2.o (by omega) _⟩
   | false=>
    have HZ:=Hd (HY.o hb);clear HX HY;obtain ⟨wk1,wk2⟩:=WK.o;go_wp2_with fail;clear wk1 wk2;go_roundw;case rel=>exact ⟨k+1,hlt,rfl,HB2,HZ⟩
    case measure=>exact bq hlt _ rfl
theorem MI (dev:Int) (u:Value) (ms:List Mt) (Am:Option Addr) (nm cm:Nat) (hn:nm=ms.length) (hl:nm≤1000) (w:World) (h:AtE EMt w w.heap.size Am ms):
   Calls Tryz.prog 96 #[.agg #[u,slV Am nm cm], .int .i64 dev] w (ME (.bool (iH ms dev)) w):=by
 have B0:=Hd ((Below.refl w.heap.size w).alloc (Nat.le_refl _) (.cells #[u,slV Am nm cm] 31));have HO:=Hd (Ch dev u ms Am nm cm hn hl _ (h.below B0.o));have HM:=Hd (AB ms dev);clear h hn;by_cases h0:dev=0
 · have b0:=(dY h0).1;have HM2:=Hd (show iH ms dev=true by rw [HM.o,b0];simp);clear HM;go_in;go_wp2_with fail;go_ret;exact ⟨by rw [HM2.o];rfl,B0.o⟩
 · have b0:=(bT h0).1;have HM2:=Hd (show iH ms dev=(onR ms dev).2.2 by rw [HM.o,b0];simp);clear HM;go_in;go_wp2_with fail;refine HO.o.mono ?_;rintro e w1 ⟨rfl,hb⟩;have B1:=Hd (B0.o.trans (hb.mono B0.o.size));clear hb HO;generalize onR ms dev=o at *;obtain ⟨a,b,o⟩:=o;have HB2:=Hd (B1.o.alloc B1.o.size (.cells #[.int .i64 a, .int .i64 b] 44));go_wp2_with fail;go_ret;exact ⟨by rw [HM2.o];rfl,HB2.o⟩
theorem MJ (dev ino:Int) (ds:List Dm) (A:Option Addr) (n c:Nat) (hn:n=ds.length) (v:Value) (w:World) (h:bR w w.heap.size A ds):
  Calls Tryz.prog 100 #[.agg #[slV A n c,v],flV dev ino] w (ME (.string (fT (ds.map Dm.dv) dev ino)) w):=by
 have HN:=Hd hn;have B0:=Hd (dI w #[slV A n c,v] #[.int .i64 dev, .int .i64 ino] 31 44);have F0:=Hd (h.below B0.o);have V0:=Hd ((Blk.new w #[slV A n c,v] 31).alloc (.cells #[.int .i64 dev, .int .i64 ino] 44));have U0:=Hd (show Blk ((w.alloc (.cells #[slV A n c,v] 31)).alloc (.cells #[.int .i64 dev, .int .i64 ino] 44)) (w.heap.size+1) 44 #[.int .i64 dev, .int .i64 ino] by
  have h:=Blk.new (w.alloc (.cells #[slV A n c,v] 31)) #[.int .i64 dev, .int .i64 ino] 44;simp only [World.size_alloc] at h;exact h)
 have HND:=Hd (Qh (ds.map Dm.dv) dev ino);clear h hn;go_in;go_wp2_with fail;generalize (w.alloc (.cells #[slV A n c,v] 31)).alloc (.cells #[.int .i64 dev, .int .i64 ino] 44)=w0 at *;refine (Cg dev ino ds A n c HN.o w0 F0.o).mono ?_;rintro e w1 ⟨A1,c1,rfl,_,_,hb⟩;generalize jA (ds.map Dm.dv) dev ino=nd at *;have B3:=Hd ((B0.o.trans (hb.mono B0.o.size)).alloc (B0.o.trans (hb.mono B0.o.size)).size (.cells (ndC nd (.slice A1 nd.es.length c1)) 145));have F3:=Hd ((F0.o.below hb).below ((Below.refl w1.heap.size w1).alloc (Nat.le_refl _) (.cells (ndC nd (.slice A1 nd.es.length c1)) 145)));have V3:=Hd ((V0.o.below hb).alloc (.cells (ndC nd (.slice A1 nd.es.length c1)) 145));have U3:=Hd ((U0.o.below hb).alloc (.cells (ndC nd (.slice A1 nd.es.length c1)) 145));have D3:=Hd (Blk.new w1 (ndC nd (.slice A1 nd.es.length c1)) 145);clear hb;go_upto_region 2 with fail;generalize w1.alloc (.cells (ndC nd (.slice A1 nd.es.length c1)) 145)=w3 at *;have v0:=V3.o.cell 0;have u0:=U3.o.cell 0;have d5:=D3.o.cell 5;go_wp2_with fail;clear v0 u0 d5 B0 F0 V0 U0;refine (Cg dev nd.par ds A n c HN.o w3 F3.o).mono ?_;rintro e w4 ⟨A4,c4,rfl,ho,hl,hb⟩;generalize jA (ds.map Dm.dv) dev nd.par=p at *;have HS:=Hd (show NaS w (w4.alloc (.cells (ndC p (.slice A4 p.es.length c4)) 145)) dev ino p.es w4.heap.size p A4 c4 from ⟨(B3.o.trans (hb.mono B3.o.size)).alloc (B3.o.trans (hb.mono B3.o.size)).size _,(U3.o.below hb).alloc _,Blk.new w4 _ _,ho.below ((Below.refl w4.heap.size w4).alloc (Nat.le_refl _) _),hl⟩);clear hb ho hl B3 F3 V3 U3 D3;go_upto_region 3 with fail;generalize w4.alloc (.cells (ndC p (.slice A4 p.es.length c4)) 145)=w5 at *;have d7:=HS.o.D.cell 7;generalize p.es=es at *;go_wp2_with fail;clear d7;go_loopw [32] (fun ix wr=>∃ k:Nat,k≤es.length∧ix= .int .i64 k∧Hid (Below w5.heap.size w5 wr)∧Hid (∀ q (hq:q < k) (hql:q < es.length),(es[q].ino == ino)=false)) (fun ix _=>es.length - (intOf ix).toNat);case atStart=>exact ⟨0,Nat.zero_le _,rfl,Hd (Below.refl _ _),Hd (fun q hq=>absurd hq (Nat.not_lt_zero q))⟩
 case round=>
  obtain ⟨k,hk,rfl,hbw,hno⟩:=hrel;have lS:=HS.o.few;have WK:=Hd (eB (q:=k) (by omega));have B6:=Hd (aa HS.o.low hbw.o);have U6:=Hd (HS.o.U.below hbw.o);by_cases hlt:k < es.length;case neg=>
   have k1:¬ (k:Int) < (es.length:Int):=(by omega);have HR2:=Hd (HND.o.trans (qz (fun q hq=>hno.o q (by omega) hq)));clear hno lS;go_wp2_with fail;go_ret;exact ⟨by rw [HR2.o];rfl,B6.o⟩
  case pos=>
   have k1:(k:Int) < (es.length:Int):=(by omega);have k2:(0:Int)≤(k:Int):=(by omega);obtain ⟨ad,rfl,hab,hcx⟩:=(HS.o.E.below hbw.o) k hlt;obtain ⟨e0,e1⟩:=iB (a:=ad.add (k * 2)) hcx;have HX:=Hd (fun h:(es[k].ino == ino)=true=>qy hlt (fun q hq=>hno.o q hq (by omega)) h);have HY:=Hd (fun h:(es[k].ino == ino)=false=>show ∀ q (hq:q < k+1) (hql:q < es.length),(es[q].ino == ino)=false from fun q hq hql=>by
    by_cases he:q=k
    · subst he;exact h
    · exact hno.o q (by omega) hql)
   clear hcx hno lS;generalize es[k]=x at *;have X7:=Hd (Blk.new wr (enC x) 209);have U7:=Hd (U6.o.alloc (.cells (enC x) 209));have B7:=Hd (B6.o.alloc B6.o.size (.cells (enC x) 209));have HB7:=Hd (hbw.o.alloc hbw.o.size (.cells (enC x) 209));clear U6 B6 hbw;go_upto_region 6 with fail;clear e0 e1;generalize wr.alloc (.cells (enC x) 209)=w7 at *;have x0:=X7.o.cell 0;have x1:=X7.o.cell 1;have u1:=U7.o.cell 1;cases hb:(x.ino == ino) with
   | true=>
    have HR2:=Hd (HND.o.trans (HX.o hb));clear HX HY;go_wp2_with fail;go_ret;exact ⟨by rw [HR2.o];rfl,B7.o⟩
   | false=>
    have HZ:=Hd (HY.o hb);clear HX HY;obtain ⟨wk1,wk2⟩:=WK.o;go_wp2_with fail;clear wk1 wk2;go_roundw;case rel=>exact ⟨k+1,hlt,rfl,HB7,HZ⟩
    case measure=>exact bq hlt _ rfl
theorem uK (l:List UInt8):Lib.hasSuffix l [47]=(l.getLast? == some 47):=by
 unfold Lib.hasSuffix;rcases List.eq_nil_or_concat l with h | ⟨r,a,h⟩
 · subst h;rfl
 · rw [h,List.concat_eq_append,List.getLast?_append];by_cases ha:a=47
   · subst ha;have: [47] <:+r ++ [47]:=List.suffix_append _ _;simp [this]
   · have hn:¬ [47] <:+r ++ [a]:=fun hs=>by
      obtain ⟨q,e⟩:=hs;have:=congrArg List.getLast? e;simp at this;exact ha this.symm
     have h1:List.isSuffixOf [47] (r ++ [a])=false:=by
      cases hq:List.isSuffixOf [47] (r ++ [a]) with
      | false=>rfl
      | true=>exact absurd (List.isSuffixOf_iff_suffix.1 hq) hn
     rw [h1];simp;intro h2;exact ha h2
theorem Cs (d n:ByteArray):iI d n=if Lib.hasSuffix d.data.toList [47]=true then d ++ n else d ++ ⟨#[47]⟩ ++ n:=by
 unfold iI;rw [uK];by_cases h:0 < d.size
 · rw [decide_eq_true h,Bool.true_and]
 · have hd:d.data.toList= []:=List.eq_nil_of_length_eq_zero (by rw [Array.length_toList];show d.size=0;omega);rw [decide_eq_false h,hd];rfl
theorem MM (d nm:ByteArray) (hd:d.size≤100000000) (hn:nm.size≤2000) (w:World):
  Calls Tryz.prog 99 #[.string d, .string nm] w fun e w' =>e= .returned (.string (iI d nm))∧w=w' :=by
 have HJ:=Hd (Cs d nm);have hs1:(d.size:Int)+(nm.size:Int)≤100002000:=by omega
 have hs2:d.size+nm.size≤100002000:=by omega
 have HS:=Hd (Tryz.strings_HasSuffix d ⟨#[47]⟩ w (by omega));go_in;go_wp2_with fail;refine HS.o.mono ?_;rintro e w1 ⟨rfl,rfl⟩;cases hb:Lib.hasSuffix d.data.toList [47] with
 | true=>
  have HR:=Hd (HJ.o.trans (if_pos hb));clear HJ;go_wp2_with fail;go_ret;exact ⟨by rw [HR.o];rfl,rfl⟩
 | false=>
  have HR:=Hd (HJ.o.trans (if_neg (by rw [hb];decide)));clear HJ;go_wp2_with fail;go_ret;exact ⟨by rw [HR.o];rfl,rfl⟩
end Go.Proofs.YtollifnnpihfdaaGreatDoor
