import Derived.Test.YtollifnnpihfdaaGreatDoorG17
import Derived.Test.YtollifnnpihfdaaGreatDoorG18
import Derived.Test.YtollifnnpihfdaaGreatDoorG21
set_option maxRecDepth 100000
set_option maxHeartbeats 64000000
set_option linter.all false
namespace Go.Proofs.YtollifnnpihfdaaGreatDoor
open Go.RowKit
structure MkR (r:Rul):Prop where
 ca:r.ca < 18446744073709551616
 pa:r.pa.size≤10
 ke:r.ke.size≤10
 ts:∀ t∈r.ts,(-13≤t.nu∧t.nu≤4294967295)∧t.tx.size≤5
structure Ru1 (w wr:World) (base g:Nat) (b:Int) (gc:Nat) (r:Rul) (tv:Value):Prop where
 only:w.grownBy wr (some g)
 src:aB wr base g b
 rb:dF wr w.heap.size nM noT
 cb:dF wr gc r tv
 own:fH wr (gc+1) tv r.ts
 fit:MkR r
 h2:w.heap.size < gc
 h3:g < w.heap.size
 h4:base≤w.heap.size
section
variable {w wr w' :World} {base g gc:Nat} {b b' :Int} {r r' :Rul} {tv:Value}
theorem Ru1.alloc (h:Ru1 w wr base g b gc r tv) (o:Obj):Ru1 w (wr.alloc o) base g b gc r tv:=⟨av h.only o,h.src.alloc o,Blk.alloc h.rb o,Blk.alloc h.cb o,h.own.alloc o,h.fit,h.h2,h.h3,h.h4⟩
theorem Ru1.drew (h:Ru1 w wr base g b gc r tv):Ru1 w wr.drew base g b gc r tv:=⟨⟨h.only.os,h.only.tape,h.only.output,h.only.size,h.only.block⟩,h.src.drew,h.rb,h.cb,h.own,h.fit,h.h2,h.h3,h.h4⟩
theorem Ru1.step (h:Ru1 w wr base g b gc r tv) (hs:aB w' base g b') (hg:wr.grownBy w' (some g)):Ru1 w w' base g b' gc r tv:=
 ⟨h.only.trans hg,hs,Blk.grown h.rb hg (fun e=>by injection e with e;have:=h.h3;omega),Blk.grown h.cb hg (fun e=>by injection e with e;have:=h.h2;have:=h.h3;omega),h.own.only hg (by have:=h.h2;have:=h.h3;omega),h.fit,h.h2,h.h3,h.h4⟩
theorem Ru1.more (h:Ru1 w wr base g b gc r tv) (hb:b≤b'):Ru1 w wr base g b' gc r tv:=⟨h.only,h.src.more hb,h.rb,h.cb,h.own,h.fit,h.h2,h.h3,h.h4⟩
theorem Ru1.lt (h:Ru1 w wr base g b gc r tv):g < wr.heap.size:=aW h.src
theorem Ru1.put (h:Ru1 w wr base g b gc r tv) (i:Nat) (v:Value) (e:(bK r tv).setIfInBounds i v=bK r' tv) (ht:r'.ts=r.ts) (hm:MkR r'):Ru1 w (wr.setCell ⟨gc,i,none⟩ v) base g b gc r' tv:=by
 have h2:=h.h2;have h3:=h.h3;have h4:=h.h4;have hx:=Blk.put h.cb i v;rw [e] at hx;exact ⟨ag h.only (.inr (by show w.heap.size≤gc;omega)) _,h.src.setCell (by show base≤gc;omega) (by show gc≠g;omega) _,Blk.af h.rb _ (by show w.heap.size≠gc;omega),hx,by rw [ht];exact h.own.setCell (by show gc < gc+1;omega) _,hm,h2,h3,h4⟩
theorem Ru1.li (h:Ru1 w wr base g b gc r tv) (v:Int):Ru1 w (wr.setCell ⟨gc,0,none⟩ (.int .i64 v)) base g b gc { r with li:=v } tv:=h.put 0 _ rfl rfl ⟨h.fit.ca,h.fit.pa,h.fit.ke,h.fit.ts⟩
theorem Ru1.ac (h:Ru1 w wr base g b gc r tv) (v:Int):Ru1 w (wr.setCell ⟨gc,1,none⟩ (.int .i64 v)) base g b gc { r with ac:=v } tv:=h.put 1 _ rfl rfl ⟨h.fit.ca,h.fit.pa,h.fit.ke,h.fit.ts⟩
theorem Ru1.ca (h:Ru1 w wr base g b gc r tv) (v:Nat) (hv:v < 18446744073709551616):Ru1 w (wr.setCell ⟨gc,2,none⟩ (.int .u64 (v:Int))) base g b gc { r with ca:=v } tv:=h.put 2 _ rfl rfl ⟨hv,h.fit.pa,h.fit.ke,h.fit.ts⟩
theorem Ru1.wa (h:Ru1 w wr base g b gc r tv) (v:Int):Ru1 w (wr.setCell ⟨gc,4,none⟩ (.int .i64 v)) base g b gc { r with wa:=v } tv:=h.put 4 _ rfl rfl ⟨h.fit.ca,h.fit.pa,h.fit.ke,h.fit.ts⟩
theorem Ru1.pa (h:Ru1 w wr base g b gc r tv) (v:ByteArray) (hv:v.size≤10):Ru1 w (wr.setCell ⟨gc,5,none⟩ (.string v)) base g b gc { r with pa:=v } tv:=h.put 5 _ rfl rfl ⟨h.fit.ca,hv,h.fit.ke,h.fit.ts⟩
theorem Ru1.pe (h:Ru1 w wr base g b gc r tv) (v:Int):Ru1 w (wr.setCell ⟨gc,6,none⟩ (.int .i64 v)) base g b gc { r with pe:=v } tv:=h.put 6 _ rfl rfl ⟨h.fit.ca,h.fit.pa,h.fit.ke,h.fit.ts⟩
theorem Ru1.app (h:Ru1 w wr base g b gc r tv) (t:Tst) (ht:(-13≤t.nu∧t.nu≤4294967295)∧t.tx.size≤5) {v' :Value} (hg:wr.grownBy w' tv.ownBlock) (ho:fH w' (gc+1) v' (r.ts ++ [t])):
   dF w' gc r tv∧Ru1 w (w'.setCell ⟨gc,3,none⟩ v') base g b gc { r with ts:=r.ts ++ [t] } v' :=by
 have h2:=h.h2;have h3:=h.h3;have h4:=h.h4;have hge:=h.own.ge;have hr:∀ k,tv.ownBlock=some k→gc < k:=fun k hk=>by have:=hge k hk;omega
 have cb:dF w' gc r tv:=Blk.grown h.cb hg (fun e=>by have:=hr _ e;omega);refine ⟨cb,ag ⟨hg.os.trans h.only.os,hg.tape.trans h.only.tape,hg.output.trans h.only.output,Nat.le_trans h.only.size hg.size,fun i hi hne=>(hg.block i (Nat.lt_of_lt_of_le hi h.only.size) (fun e=>by have:=hr _ e.symm;omega)).trans (h.only.block i hi hne)⟩ (.inr (by show w.heap.size≤gc;omega)) _,
   (h.src.grown hg (fun k e=>by have:=hr k e;omega)).setCell (by show base≤gc;omega) (by show gc≠g;omega) _,Blk.af (Blk.grown h.rb hg (fun e=>by have:=hr _ e;omega)) _ (by show w.heap.size≠gc;omega),Blk.put cb 3 v',ho.setCell (by show gc < gc+1;omega) _,⟨h.fit.ca,h.fit.pa,h.fit.ke,fun u hu=>?_⟩,h2,h3,h4⟩
 rcases List.mem_append.1 hu with hu | hu
 · exact h.fit.ts u hu
 · rw [List.mem_singleton.1 hu];exact ht
theorem DC (h:Ru1 w wr base g b gc r tv):∃ A c,tv= .slice A r.ts.length c:=by
 obtain ⟨A,c,e,_⟩:=h.own.tests;exact ⟨A,c,e⟩
end
def zJ (w:World) (base g:Nat) (b:Int) (e:Ending) (w' :World):Prop:=
 ∃ (r:Rul) (T:Option Addr) (n c:Nat),e= .returned (oF r (.slice T n c))∧n=r.ts.length∧n≤3∧MkR r∧fH w' (w.heap.size+1) (.slice T n c) r.ts∧aB w' base g b∧w.grownBy w' (some g)
theorem DD (w:World) (base g:Nat) (b:Int) (h:aB w base g b) (hb:b≤100000000000):
  Calls Tryz.prog 30 #[.pointer (some ⟨g,0,none⟩)] w (zJ w base g (b+200)):=by
 have HB:=Hd hb;have rz:g < w.heap.size:=aW h;have hbase:base≤w.heap.size:=by have:=h.1;omega
 have HS0:=Hd (h.alloc (.cells (bK nM noT) 90));have HO0:=Hd (av (World.grownBy.refl w (some g)) (.cells (bK nM noT) 90));have HZ0:=Hd (Blk.new w (bK nM noT) 90);clear h hb;go_in;go_wp2_with fail;refine (aF _ base g (w.heap.size+1) b 10 1 5 _ 3 (0,0) (HS0.o.alloc _) (by have:=HB.o;omega) (by have:=heap_alloc_new (w.alloc (.cells (bK nM noT) 90)) (.cells #[.int .i64 3, .int .i64 3, .int .i64 3, .int .i64 3, .int .i64 2, .int .i64 2, .int .i64 1, .int .i64 4, .int .i64 5, .int .i64 5] 3);simpa using this) (by omega) rfl (by omega) (by omega) rfl).mono ?_;rintro e w1 ⟨li,rfl,l0,l1,hs,hg⟩;have HS1:=Hd hs;have HO1:=Hd ((av HO0.o _).trans hg);have HZ1:=Hd ((HZ0.o.alloc _).grown hg (fun e=>by injection e with e;omega));have hlt1:=HZ1.o.lt;clear hs hg HS0 HO0 HZ0;go_wp2_with fail;refine (aF _ base g w1.heap.size (b+1) 3 1 2 _ 3 (0,0) (HS1.o.alloc _) (by have:=HB.o;omega) (heap_alloc_new w1 _) (by omega) rfl (by omega) (by omega) rfl).mono ?_;rintro e w2 ⟨ac,rfl,a0,a1,hs,hg⟩;have HS2:=Hd hs;have HO2:=Hd ((av HO1.o _).trans hg);have HZ2:=Hd ((HZ1.o.alloc _).grown hg (fun e=>by injection e with e;omega));have hlt2:=HZ2.o.lt;clear hs hg HS1 HO1 HZ1 hlt1;go_wp2_with fail;refine (fJ _ base g w2.heap.size (b+1+1) 4 3 _ 9 (0,0) (HS2.o.alloc _) (by have:=HB.o;omega) (heap_alloc_new w2 _) (by omega) rfl (by omega) (by omega) rfl).mono ?_;rintro e w3 ⟨ke,rfl,hke,hs,hg⟩;have HO3:=Hd ((av HO2.o _).trans hg);have HZ3:=Hd ((HZ2.o.alloc _).grown hg (fun e=>by injection e with e;omega));have hlt3:=HZ3.o.lt;have st0:Ru1 w (w3.alloc (.cells (bK ⟨li,ac,0, [],0,⟨#[]⟩,0,ke⟩ noT) 90)) base g (b+3) w3.heap.size ⟨li,ac,0, [],0,⟨#[]⟩,0,ke⟩ noT:=
  ⟨av HO3.o _,(hs.alloc _).more (by omega),HZ3.o.alloc _,Blk.new w3 _ _,fH.nil _ _,⟨by show 0 < _;omega,by show 0≤10;omega,by show ke.size≤10;omega,fun t ht=>by cases ht⟩,hlt3,rz,hbase⟩
 have ST0:=Hd st0;clear hs hg HS2 HO2 HZ2 HO3 HZ3 hlt2 hlt3 st0;go_upto_region 2 with fail;generalize w3.heap.size=gc at *;generalize w3.alloc (.cells (bK ⟨li,ac,0, [],0,⟨#[]⟩,0,ke⟩ noT) 90)=w4 at *;generalize hr0:(⟨li,ac,0, [],0,⟨#[]⟩,0,ke⟩:Rul)=r0 at *;have HT0:=Hd (show r0.ts= [] by rw [← hr0]);clear hr0 l0 l1 a0 a1 hke;have hlt:=ST0.o.lt;go_cut [22] (fun v wx=>(∃ t:Bool,v= .bool t)∧wx=w4);case first=>
  have c0:=dF.c0 ST0.o.cb;by_cases h2:r0.li=2
  · have t2:(r0.li == 2)=true:=(by simpa using h2);clear h2;go_wp2_with fail;go_meet;exact ⟨⟨_,rfl⟩,rfl⟩
  · have t2:(r0.li == 2)=false:=(by simpa using h2);clear h2;go_wp2_with fail;go_meet;exact ⟨⟨_,rfl⟩,rfl⟩
 case rest=>
 obtain ⟨⟨t,rfl⟩,rfl⟩:=hcut;go_upto_if 22 with fail;go_cut [] (fun wx=>∃ r,Ru1 w wx base g (b+60) gc r noT∧r.ts= []);case first=>
  cases t
  · go_wp2_with fail;go_meet;exact ⟨r0,ST0.o.more (by omega),HT0.o⟩
  · go_wp2_with fail;refine (CV _ base g (b+3) ST0.o.src (by have:=HB.o;omega)).mono ?_;rintro e w5 ⟨k,rfl,hk,hs,hg⟩;have st5:=ST0.o.step hs hg;have c2:=dF.c2 st5.cb;have f2:=st5.cb.free 2;have ST6:=Hd (st5.ca k hk);clear hs hg st5;go_wp2_with fail;clear c2 f2;refine (bG _ base g (b+3+40) 3 ST6.o.src (by have:=HB.o;omega) (by omega) (by omega)).mono ?_;rintro e w7 ⟨y,rfl,y0,y1,hs,hg⟩;have ST7:=Hd (ST6.o.step hs hg);have UN:=ST7.o.lt;have c2:=dF.c2 ST7.o.cb;have f2:=ST7.o.cb.free 2;clear hs hg ST6;by_cases hy:0 < y
    · have ST8:=Hd (ST7.o.ca 4294967295 (by omega));have c2' :(w7.setCell ⟨gc,2,none⟩ (.int .u64 4294967295)).cell? ⟨gc,2,none⟩=some (.int .u64 4294967295):=dF.c2 ST8.o.cb;go_wp2_with fail;go_meet;exact ⟨_,ST8.o.more (by omega),HT0.o⟩
    · by_cases hk0:k=0
      · have t0:((k:Int) == 0)=true:=(by simpa using hk0);have ST8:=Hd (ST7.o.ca 1 (by omega));clear hk0;go_wp2_with fail;go_meet;exact ⟨_,ST8.o.more (by omega),HT0.o⟩
      · have t0:((k:Int) == 0)=false:=(by simpa using hk0);clear hk0;go_wp2_with fail;go_meet;exact ⟨_,ST7.o.more (by omega),HT0.o⟩
 case rest=>
 obtain ⟨r1,st1,ht1⟩:=hcut;have ST1:=Hd st1;have HT1:=Hd ht1;clear st1 ht1 ST0 HT0 hlt;have hlt:=ST1.o.lt;go_wp2_with fail;refine (aF _ base g wc.heap.size (b+60) 6 0 3 _ 3 (0,0) (ST1.o.src.alloc _) (by have:=HB.o;omega) (heap_alloc_new wc _) (by omega) rfl (by omega) (by omega) rfl).mono ?_;rintro e w8 ⟨m,rfl,m0,m1,hs,hg⟩;have st8:=(ST1.o.alloc (.cells #[.int .i64 0, .int .i64 0, .int .i64 1, .int .i64 1, .int .i64 2, .int .i64 3] 3)).step hs hg;obtain ⟨kn,rfl⟩:=Int.eq_ofNat_of_zero_le m0;have ST8:=Hd st8;clear hs hg st8 ST1 m0 hlt;go_wp2_with fail;go_loopw [4] (fun i wr=>∃ (k:Nat) (r:Rul) (tv:Value),i= .int .i64 (k:Int)∧r.ts.length+k≤3∧Ru1 w wr base g (b+61+20 * r.ts.length) gc r tv) (fun i _=>(intOf i).toNat);case atStart=>exact ⟨kn,r1,noT,rfl,by rw [HT1.o];simp;omega,by rw [HT1.o];exact ST8.o.more (by simp;omega)⟩
 case round=>
  obtain ⟨k,r,tv,rfl,hlen,hst⟩:=hrel;clear ST8 m1;by_cases hk:0 < k
  · have hk1:(0:Int) < (k:Int):=(by omega);have q3:=dF.c3 hst.cb;have q0:=dF.c0 hst.cb;have hgc:=hst.cb.lt;go_wp2_with fail
    go_region_law
      (first
        | (go_simp;go_at_call 75;refine (Dg _ base g (b+61+20 * r.ts.length) r.li (by exact hst.src.drew) (by have:=HB.o;omega)).mono ?_;rintro e w13 ⟨fd,op,nu,tx,ot,rfl,hnu,htx,hs3,hg3⟩;have st3:=hst.drew.step hs3 hg3;have qA:=dF.c3 st3.cb;have qC:=dF.c3 (st3.alloc (.cells (bP fd op nu tx ot) 85)).cb;go_simp)
        | (refine mR (by rfl) (.tmp 42) (.tmp 47) (by rfl) (gc+1) tv r.ts (by rfl) (by exact (st3.alloc _).own) ⟨w13.heap.size,0,none⟩ ⟨fd,op,nu,tx,ot⟩ (by rfl) (by exact Dq w13 (bP fd op nu tx ot) 85) (by omega) (by have:=st3.cb.lt;simp;omega) ?_;intro v4 w4 nH hg4 xP;obtain ⟨g4,c4,hv4⟩:=Joins.ownsRow_form nH (by simp);subst hv4;obtain ⟨cb4,st4⟩:=(st3.alloc (.cells (bP fd op nu tx ot) 85)).app ⟨fd,op,nu,tx,ot⟩ ⟨hnu,htx⟩ hg4 nH;have qB:=dF.c3 cb4;have fB:=cb4.free 3))
    all_goals
      simp only [List.length_append,List.length_cons,List.length_nil,Nat.zero_add] at st4;have ST4:=Hd st4;clear q3 q0 qA qB qC fB cb4 nH st3 st4 hst hg3 hs3 hg4 xP;go_wp2_with fail;go_roundw;case rel=>exact ⟨k - 1, { r with ts:=r.ts ++ [⟨fd,op,nu,tx,ot⟩] },_,by go_num,by show (r.ts ++ [_]).length+(k - 1)≤3;rw [List.length_append,List.length_singleton];omega,ST4.o.more (by show _≤b+61+20 * (((r.ts ++ [_]).length:Nat):Int);rw [List.length_append,List.length_singleton];omega)⟩
      case measure=>simp [intOf];omega
  · obtain rfl:k=0:=(by omega);have ST:=Hd hst;have HL3:=Hd (show r.ts.length≤3 by omega);obtain ⟨T,c,rfl⟩:=DC hst;have HSB:=Hd (hst.more (b' :=b+130) (by omega));clear hst hlen ST;have hlt:=HSB.o.lt;have c0:=dF.c0 HSB.o.cb;generalize hn:r.ts.length=n at *;have HN:=Hd hn;clear hn;go_upto_region 12 with fail;go_cut [57] (fun v wx=>(∃ t:Bool,v= .bool t)∧Ru1 w wx base g (b+131) gc r (.slice T n c));case first=>
      by_cases h3:r.li=3
      · have t3:(r.li == 3)=true:=(by simpa using h3);clear h3;go_wp2_with fail;refine (bG _ base g (b+130) 3 HSB.o.src (by have:=HB.o;omega) (by omega) (by omega)).mono ?_;rintro e w9 ⟨y,rfl,y0,y1,hs,hg⟩;have ST9:=Hd (HSB.o.step hs hg);clear hs hg;go_wp2_with fail;go_meet;exact ⟨⟨_,rfl⟩,ST9.o.more (by omega)⟩
      · have t3:(r.li == 3)=false:=(by simpa using h3);clear h3;go_wp2_with fail;go_meet;exact ⟨⟨_,rfl⟩,HSB.o.more (by omega)⟩
    case rest=>
    obtain ⟨⟨t,rfl⟩,st⟩:=hcut;have ST:=Hd st;clear st c0 HSB;go_upto_if 57 with fail;go_cut [] (fun wx=>∃ q,Ru1 w wx base g (b+150) gc q (.slice T n c)∧q.ts=r.ts);case first=>
      cases t
      · go_wp2_with fail;go_meet;exact ⟨r,ST.o.more (by omega),rfl⟩
      · go_wp2_with fail;refine (aA _ base g (b+131) 1 2 ST.o.src (by have:=HB.o;omega) (by omega) (by omega) (by omega)).mono ?_;rintro e w9 ⟨wa,rfl,_,_,hs,hg⟩;have ST9:=Hd (ST.o.step hs hg);clear hs hg;go_wp2_with fail;refine (rR _ base g (b+131+1) ST9.o.src (by have:=HB.o;omega)).mono ?_;rintro e w10 ⟨pa,rfl,hpa,hs,hg⟩;have N9:=Hd (ST9.o.step hs hg);have HPA:=Hd (show pa.size≤10 by omega);clear hs hg ST9 hpa;go_wp2_with fail;refine (aA _ base g (b+131+1+4) 1 15 N9.o.src (by have:=HB.o;omega) (by omega) (by omega) (by omega)).mono ?_;rintro e w11 ⟨pe,rfl,_,_,hs,hg⟩;have jK:=N9.o.step hs hg;have c4:=dF.c4 jK.cb;have c5:=dF.c5 jK.cb;have c6:=dF.c6 jK.cb;have f4:=jK.cb.free 4;have f5:=jK.cb.free 5;have f6:=jK.cb.free 6;have Oa:=Hd (((jK.wa wa).pa pa HPA.o).pe pe);clear hs hg N9 jK;go_wp2_with fail;clear c4 c5 c6 f4 f5 f6;refine (bG _ base g (b+131+1+4+1) 8 Oa.o.src (by have:=HB.o;omega) (by omega) (by omega)).mono ?_;rintro e w13 ⟨y,rfl,y0,y1,hs,hg⟩;have Na:=Hd (Oa.o.step hs hg);clear hs hg Oa;by_cases h7:y=7
        · have t7:(y == 7)=true:=(by simpa using h7);have c5:=dF.c5 Na.o.cb;have f5:=Na.o.cb.free 5;have SG:=Hd (Na.o.pa ⟨#[47]⟩ (by show 1≤10;omega));clear h7;go_wp2_with fail;go_meet;exact ⟨_,SG.o.more (by omega),rfl⟩
        · have t7:(y == 7)=false:=(by simpa using h7);clear h7;go_wp2_with fail;go_meet;exact ⟨_,Na.o.more (by omega),rfl⟩
    case rest=>
    obtain ⟨q,st,hq⟩:=hcut;have ST2:=Hd st;have HQ:=Hd hq;clear st hq ST;go_wp2_with fail;refine (bG _ base g (b+150) 24 ST2.o.src (by have:=HB.o;omega) (by omega) (by omega)).mono ?_;rintro e w13 ⟨y,rfl,y0,y1,hs,hg⟩;have ST3:=Hd (ST2.o.step hs hg);clear hs hg ST2;go_upto_if 73 with fail;go_cut [] (fun wx=>∃ p,Ru1 w wx base g (b+160) gc p (.slice T n c)∧p.ts=r.ts);case first=>
      by_cases h7:y=23
      · have t7:(y == 23)=true:=(by simpa using h7);clear h7;go_wp2_with fail;refine (aA _ base g (b+150+1) (-1) 16 ST3.o.src (by have:=HB.o;omega) (by omega) (by omega) (by omega)).mono ?_;rintro e w14 ⟨pe,rfl,_,_,hs,hg⟩;have ST4:=Hd (ST3.o.step hs hg);clear hs hg;go_wp2_with fail;refine (aA _ base g (b+150+1+1) 0 6 ST4.o.src (by have:=HB.o;omega) (by omega) (by omega) (by omega)).mono ?_;rintro e w15 ⟨li,rfl,_,_,hs,hg⟩;have ST5:=Hd (ST4.o.step hs hg);clear hs hg ST4;go_wp2_with fail;refine (aA _ base g (b+150+1+1+1) 0 3 ST5.o.src (by have:=HB.o;omega) (by omega) (by omega) (by omega)).mono ?_;rintro e w16 ⟨ac,rfl,_,_,hs,hg⟩;have st6:=ST5.o.step hs hg;have c0:=dF.c0 st6.cb;have c1:=dF.c1 st6.cb;have c6:=dF.c6 st6.cb;have f0:=st6.cb.free 0;have f1:=st6.cb.free 1;have f6:=st6.cb.free 6;have ST7:=Hd (((st6.pe pe).li li).ac ac);clear hs hg ST5 st6;go_wp2_with fail;go_meet;exact ⟨_,ST7.o.more (by omega),HQ.o⟩
      · have t7:(y == 23)=false:=(by simpa using h7);clear h7;go_wp2_with fail;go_meet;exact ⟨_,ST3.o.more (by omega),HQ.o⟩
    case rest=>
    obtain ⟨p,st,hp⟩:=hcut;have ST4:=Hd st;have HP:=Hd hp;clear st hp ST3 HQ;go_wp2_with (first | ((with_reducible refine aP ?_ 90 (.tmp 3) ?_ ST4.o.cb ?_ _ Tryz.underlying90 ?_ ?_ ?_);(iterate 4 rfl);exact iN _ _) | ((with_reducible refine ae ?_ 90 (.tmp 2) (.tmp 83) ?_ ST4.o.rb (bK p (.slice T n c)) ?_ ?_ ?_ ?_ ?_ ?_);(iterate 4 rfl);(exact iN _ _);rfl;(exact pV _ _ _ _)));refine bodyPost_ret (qa (fn:=Tryz.f30) rfl _ _ w.heap.size p (.slice T n c) rfl (Blk.row ST4.o.rb _)) rfl ?_;have h2:=ST4.o.h2;have h3:=ST4.o.h3;have h4:=ST4.o.h4;exact ⟨p,T,n,c,rfl,by rw [HP.o,HN.o],HL3.o,ST4.o.fit,(ST4.o.own.low (by omega)).row (by omega) _,((ST4.o.src.keep (setRow_other _ _ _ _ (by omega)) (fun i hi=>setRow_other _ _ _ _ (by omega))).more (by omega)),⟨ST4.o.only.os,ST4.o.only.tape,ST4.o.only.output,by rw [setRow_size];exact ST4.o.only.size,fun i hi hne=>(setRow_other _ _ _ _ (by omega)).trans (ST4.o.only.block i hi hne)⟩⟩
theorem dJ {a w w' :World} {g:Nat} (h:a.grownBy w (some g)) (k:w.grownBy w' (some g)):a.grownBy w' (some g):=
 ⟨k.os.trans h.os,k.tape.trans h.tape,k.output.trans h.output,Nat.le_trans h.size k.size,fun i hi hne=>(k.block i (Nat.lt_of_lt_of_le hi h.size) hne).trans (h.block i hi hne)⟩
theorem eD {a w:World} {g k:Nat} (h:a.grownBy w (some g)) (hk:a.heap.size≤k) (cs:Array Value):a.grownBy (w.setRow k cs) (some g):=
 ⟨h.os,h.tape,h.output,by rw [setRow_size];exact h.size,fun i hi hne=>(setRow_other w k i cs (by omega)).trans (h.block i hi hne)⟩
structure SfF (w wr:World) (base g:Nat) (b:Int) (lo:Nat) (A:Option Addr) (n c:Nat) (ds:List Dm):Prop where
 src:aB wr base g b
 only:w.grownBy wr (some g)
 fil:aC wr lo (.slice A n c) ds
 old:aC w lo (.slice A n c) ds
 glo:g < lo
 hlo:lo≤w.heap.size
section
variable {w wr w' :World} {base g lo n c:Nat} {b b' :Int} {A:Option Addr} {ds:List Dm}
theorem SfF.grow (h:SfF w wr base g b lo A n c ds) (hg:wr.grownBy w' (some g)) (hs:aB w' base g b'):SfF w w' base g b' lo A n c ds:=
 ⟨hs,dJ h.only hg,h.fil.far hg (fun q e=>by injection e with e;subst e;exact h.fil.old h.glo),h.old,h.glo,h.hlo⟩
theorem SfF.below (h:SfF w wr base g b lo A n c ds) (hb:Below wr.heap.size wr w'):SfF w w' base g b lo A n c ds:=
 ⟨h.src.below hb,bE h.only hb,h.fil.below hb,h.old,h.glo,h.hlo⟩
theorem SfF.alloc (h:SfF w wr base g b lo A n c ds) (o:Obj):SfF w (wr.alloc o) base g b lo A n c ds:=h.below ((Below.refl _ _).alloc (Nat.le_refl _) o)
theorem SfF.more (h:SfF w wr base g b lo A n c ds) (hb:b≤b'):SfF w wr base g b' lo A n c ds:=⟨h.src.more hb,h.only,h.fil,h.old,h.glo,h.hlo⟩
theorem SfF.cell (h:SfF w wr base g b lo A n c ds) {k:Nat} (hk:w.heap.size≤k) (hkg:k≠g) (j:Nat) (u:Value):SfF w (wr.setCell ⟨k,j,none⟩ u) base g b lo A n c ds:=by
 have hlo:=h.hlo;have hgl:=h.glo;have hb:=h.src.1;exact ⟨h.src.setCell (by show base≤k;omega) hkg u,ag h.only (.inr hk) u,h.fil.far (aL wr k j u) (fun q e=>by injection e with e;subst e;exact h.old.new hk),h.old,hgl,hlo⟩
theorem SfF.row (h:SfF w wr base g b lo A n c ds) {k:Nat} (hk:w.heap.size≤k) (hkg:k≠g) (cs:Array Value):SfF w (wr.setRow k cs) base g b lo A n c ds:=by
 have hlo:=h.hlo;have hgl:=h.glo;have hb:=h.src.1;exact ⟨h.src.grown (aJ wr k cs) (fun r e=>by injection e with e;exact ⟨by omega,by omega⟩),eD h.only hk cs,h.fil.far (aJ wr k cs) (fun q e=>by injection e with e;subst e;exact h.old.new hk),h.old,hgl,hlo⟩
theorem Blk.src {wr w' :World} {g k:Nat} {t:TypeId} {cs:Array Value} (h:Blk wr k t cs) (hg:wr.grownBy w' (some g)) (hne:k≠g):Blk w' k t cs:=h.grown hg (fun e=>hne (by injection e with e;exact e.symm))
end
def OE (w:World) (base g:Nat) (b:Int) (e:Ending) (w' :World):Prop:=∃ d i:Int,e= .returned (flV d i)∧aB w' base g b∧w.grownBy w' (some g)
theorem iJ {fn:Func} {i:Nat} (h:fn.results=#[.cell i 44]) (tmps:Array Value) (w:World) (g:Nat) (d k:Int) (hp:tmps.getD i undef= .pointer (some ⟨g,0,none⟩)) (hg:Blk w g 44 #[.int .i64 d, .int .i64 k]):
  (results fn tmps).run Tryz.prog w= .ok (flV d k) w:=
 results_cell_row h tmps w g _ #[.int .i64 d, .int .i64 k] (0,0) _ hp hg Tryz.underlying44 rfl (gK d k)
theorem iK (w:World) (base g:Nat) (b:Int) (h:aB w base g b) (hb:b≤1000000000000) (lo:Nat) (A:Option Addr) (n c:Nat) (ds:List Dm) (hf:aC w lo (.slice A n c) ds) (hg:g < lo) (hlo:lo≤w.heap.size) (hok:FOk (ds.map Dm.dv)):
  Calls Tryz.prog 22 #[.pointer (some ⟨g,0,none⟩),fsV A n c] w (OE w base g (b+4)):=by
 have HB:=Hd hb;have HOK:=Hd hok;have HGW:=Hd (aW h);have HN:=Hd hf.mi.2;have S0:=Hd (show SfF w ((w.alloc (.cells #[.slice A n c] 28)).alloc (.cells #[.int .i64 0, .int .i64 0] 44)) base g b lo A n c ds from
  ((⟨h,World.grownBy.refl w _,hf,hf,hg,hlo⟩:SfF w w base g b lo A n c ds).alloc _).alloc _)
 have V0:=Hd ((Blk.new w #[.slice A n c] 28).alloc (.cells #[.int .i64 0, .int .i64 0] 44));have R0:=Hd (show Blk ((w.alloc (.cells #[.slice A n c] 28)).alloc (.cells #[.int .i64 0, .int .i64 0] 44)) (w.heap.size+1) 44 #[.int .i64 0, .int .i64 0] by
  have h:=Blk.new (w.alloc (.cells #[.slice A n c] 28)) #[.int .i64 0, .int .i64 0] 44;simp only [World.size_alloc] at h;exact h)
 have hl1:1≤n:=by rw [HN.o];have:=hok.1;simpa using this
 have hl3:n≤3:=by rw [HN.o];have:=hok.2.1;simpa using this
 clear h hb hf hg hlo hok;have n0:((n:Int) == 0)=false:=(bT (by omega)).1;go_in;go_wp2_with fail;generalize (w.alloc (.cells #[.slice A n c] 28)).alloc (.cells #[.int .i64 0, .int .i64 0] 44)=w0 at *;refine (bG w0 base g b (n:Int) S0.o.src (by have:=HB.o;omega) (by omega) (by omega)).mono ?_;rintro e w1 ⟨x,rfl,hx0,hx1,hs,hgr⟩;obtain ⟨j,rfl⟩:=Int.eq_ofNat_of_zero_le hx0;have hgw:=HGW.o;have S1:=Hd (S0.o.grow hgr hs);have V1:=Hd (V0.o.src hgr (by omega));have R1:=Hd (R0.o.src hgr (by omega));clear hs hgr S0 V0 R0;have v0:=V1.o.cell 0;go_wp2_with fail;refine (bG w1 base g (b+1) 24 S1.o.src (by have:=HB.o;omega) (by omega) (by omega)).mono ?_;rintro e w2 ⟨y,rfl,hy0,hy1,hs,hgr⟩;have S2:=Hd (S1.o.grow hgr hs);have V2:=Hd (V1.o.src hgr (by omega));have R2:=Hd (R1.o.src hgr (by omega));clear hs hgr S1 V1 R1 v0;by_cases hy:y=23;case pos=>
  have p1:=(dY hy).1;clear hy;go_wp2_with fail;refine (aA w2 base g (b+1+1) (-1) 3 S2.o.src (by have:=HB.o;omega) (by omega) (by omega) (by omega)).mono ?_;rintro e w3 ⟨z,rfl,hz0,hz1,hs,hgr⟩;have S3:=Hd (S2.o.grow hgr hs);have R3:=Hd (R2.o.src hgr (by omega));clear hs hgr S2 V2 R2;go_wp2_with fail;refine (aA w3 base g _ (-1) 9 S3.o.src (by have:=HB.o;omega) (by omega) (by omega) (by omega)).mono ?_;rintro e w4 ⟨u,rfl,hu0,hu1,hs,hgr⟩;have S4:=Hd (S3.o.grow hgr hs);have R4:=Hd (R3.o.src hgr (by omega));clear hs hgr S3 R3;go_wp2_with ((with_reducible refine ae ?_ 44 (.tmp 4) (.tmp 25) ?_ R4.o #[.int .i64 z, .int .i64 u] ?_ ?_ ?_ ?_ ?_ ?_);(iterate 4 rfl);(exact gK _ _);rfl;(exact dM _ _));refine bodyPost_ret (iJ (fn:=Tryz.f22) rfl _ _ (w.heap.size+1) z u rfl (Blk.row R4.o _)) rfl ?_;have hgx:=aJ w4 (w.heap.size+1) #[.int .i64 z, .int .i64 u];exact ⟨z,u,rfl,(S4.o.src.grown hgx (fun r e=>by injection e with e;have:=S4.o.src.1;have:=S4.o.glo;have:=S4.o.hlo;exact ⟨by omega,by omega⟩)).more (by omega),eD S4.o.only (by omega) _⟩
 case neg=>
  have p1:=(bT hy).1;have j1:(j:Int) < (n:Int):=hx1;have j2:(0:Int)≤(j:Int):=by omega
  have hj:j < ds.length:=by rw [← HN.o];omega
  obtain ⟨ad,hA,hab,hcx⟩:=bB S2.o.fil.own j hj;subst hA;obtain ⟨s0,s1⟩:=bO (a:=ad.add (j * 2)) hcx;have v0:=V2.o.cell 0;have hroot:1≤ds[j].xs.length:=by
   obtain ⟨nd,r,e,_⟩:=(HOK.o.2.2 ds[j].dv (List.mem_map.2 ⟨_,List.getElem_mem hj,rfl⟩)).root;have:(ds[j].xs.map (·.nd)).length=(nd :: r).length:=congrArg List.length e;simp at this;omega
  have lS:=(S2.o.fil.nodes _ (List.getElem_mem hj)).2;have HND:=Hd (fun W (h:aC W lo (.slice (some ad) n c) ds)=>bB (h.nodes _ (List.getElem_mem hj)).1);clear hcx s0 hy;generalize hdd:ds[j]=d at *;go_wp2_with fail;clear v0 s1;refine (bG w2 base g (b+1+1) (d.xs.length:Int) S2.o.src (by have:=HB.o;omega) (by omega) (by omega)).mono ?_;rintro e w3 ⟨z,rfl,hz0,hz1,hs,hgr⟩;obtain ⟨k,rfl⟩:=Int.eq_ofNat_of_zero_le hz0;have S3:=Hd (S2.o.grow hgr hs);have R3:=Hd (R2.o.src hgr (by omega));clear hs hgr S2 V2 R2;have hk:k < d.xs.length:=by omega
  obtain ⟨bd,hbd,hbb,hcy⟩:=HND.o w3 S3.o.fil k hk;obtain ⟨t0,t1,t2,t3,t4,t5,t6,t7⟩:=dE (a:=bd.add (k * 8)) hcy;rw [hbd];clear hcy t1 t2 t3 t4 t5 t6 t7;have k2:(0:Int)≤(k:Int):=by omega
  generalize d.xs[k]=xk at *;go_wp2_with ((with_reducible refine ae ?_ 44 (.tmp 4) (.tmp 41) ?_ R3.o #[.int .i64 (j:Int), .int .i64 xk.nd.ino] ?_ ?_ ?_ ?_ ?_ ?_);(iterate 4 rfl);(exact gK _ _);rfl;(exact dM _ _));refine bodyPost_ret (iJ (fn:=Tryz.f22) rfl _ _ (w.heap.size+1) (j:Int) xk.nd.ino rfl (Blk.row R3.o _)) rfl ?_;have hgx:=aJ w3 (w.heap.size+1) #[.int .i64 (j:Int), .int .i64 xk.nd.ino];exact ⟨_,_,rfl,(S3.o.src.grown hgx (fun r e=>by injection e with e;have:=S3.o.src.1;have:=S3.o.glo;have:=S3.o.hlo;exact ⟨by omega,by omega⟩)).more (by omega),eD S3.o.only (by omega) _⟩
structure SaF (w wr:World) (base g:Nat) (b:Int):Prop where
 only:w.grownBy wr (some g)
 src:aB wr base g b
 rb:Blk wr w.heap.size 145 ndZ
 h3:g < w.heap.size
 h4:base≤w.heap.size
structure SaC (w wr:World) (base g:Nat) (b:Int) (gc:Nat) (nd:Nd):Prop where
 f:SaF w wr base g b
 cb:Blk wr gc 145 (ndC nd (.slice none 0 0))
 h2:w.heap.size < gc
section
variable {w wr w' :World} {base g gc:Nat} {b b' :Int} {nd:Nd}
theorem SaF.alloc (h:SaF w wr base g b) (o:Obj):SaF w (wr.alloc o) base g b:=⟨av h.only o,h.src.alloc o,h.rb.alloc o,h.h3,h.h4⟩
theorem SaF.step (h:SaF w wr base g b) (hs:aB w' base g b') (hg:wr.grownBy w' (some g)):SaF w w' base g b' :=⟨h.only.trans hg,hs,h.rb.grown hg (fun e=>by injection e with e;have:=h.h3;omega),h.h3,h.h4⟩
theorem SaC.alloc (h:SaC w wr base g b gc nd) (o:Obj):SaC w (wr.alloc o) base g b gc nd:=⟨h.f.alloc o,h.cb.alloc o,h.h2⟩
theorem SaC.step (h:SaC w wr base g b gc nd) (hs:aB w' base g b') (hg:wr.grownBy w' (some g)):SaC w w' base g b' gc nd:=⟨h.f.step hs hg,h.cb.grown hg (fun e=>by injection e with e;have:=h.h2;have:=h.f.h3;omega),h.h2⟩
theorem SaC.put (h:SaC w wr base g b gc nd) (i:Nat) (v:Value) {nd' :Nd} (hn:ndC nd' (.slice none 0 0)=(ndC nd (.slice none 0 0)).setIfInBounds i v):SaC w (wr.setCell ⟨gc,i,none⟩ v) base g b gc nd' :=by
 have h2:=h.h2;have h3:=h.f.h3;have h4:=h.f.h4;exact ⟨⟨ag h.f.only (.inr (by show w.heap.size≤gc;omega)) _,h.f.src.setCell (by show base≤gc;omega) (by show gc≠g;omega) _,h.f.rb.af _ (by show w.heap.size≠gc;omega),h3,h4⟩,by rw [hn];exact h.cb.put i v,h2⟩
end
def wT (w:World) (base g:Nat) (b:Int) (e:Ending) (w' :World):Prop:=∃ nd:Nd,e= .returned (.agg (ndC nd (.slice none 0 0)))∧nd.tg.size≤60∧aB w' base g b∧w.grownBy w' (some g)
theorem qD {fn:Func} {i:Nat} (h:fn.results=#[.cell i 145]) (tmps:Array Value) (w:World) (g:Nat) (nd:Nd) (v:Value) (hp:tmps.getD i undef= .pointer (some ⟨g,0,none⟩)) (hg:Blk w g 145 (ndC nd v)):
  (results fn tmps).run Tryz.prog w= .ok (.agg (ndC nd v)) w:=
 results_cell_row h tmps w g _ (ndC nd v) (0,0) _ hp hg Tryz.underlying145 rfl (iU nd v)
theorem SaC.fin {w wr:World} {base g gc:Nat} {b b' :Int} {nd:Nd} (h:SaC w wr base g b' gc nd) (hb:b' ≤b) (ht:nd.tg.size≤60):wT w base g b (.returned (.agg (ndC nd (.slice none 0 0)))) (wr.setRow w.heap.size (ndC nd (.slice none 0 0))):=by
 have h3:=h.f.h3;have h4:=h.f.h4;exact ⟨nd,rfl,ht,(h.f.src.keep (setRow_other _ w.heap.size g _ (by omega)) (fun i hi=>setRow_other _ w.heap.size i _ (by omega))).more hb,eD h.f.only (Nat.le_refl _) _⟩
theorem Ed (w:World) (base g:Nat) (b:Int) (h:aB w base g b) (hb:b≤1000000000000):
  Calls Tryz.prog 169 #[.pointer (some ⟨g,0,none⟩)] w (wT w base g (b+60)):=by
 have HB:=Hd hb;have hbase:base≤w.heap.size:=by have:=h.1;have:=aW h;omega
 have S0:=Hd (show SaF w (w.alloc (.cells ndZ 145)) base g b from ⟨av (World.grownBy.refl w _) _,h.alloc _,Blk.new w ndZ 145,aW h,hbase⟩);have hgw:g < w.heap.size:=aW h;clear h hb;go_in;go_upto_region 1 with fail;generalize w.alloc (.cells ndZ 145)=w0 at *;go_wp2_with fail;have hlt:w.heap.size < w0.heap.size:=S0.o.rb.lt;refine (aF _ base g w0.heap.size _ 5 (1) 3 _ 3 (0,0) ((S0.o.alloc (.cells #[.int .i64 1, .int .i64 1, .int .i64 2, .int .i64 2, .int .i64 3] 3)).src) (by have:=HB.o;omega) (heap_alloc_new w0 _) (by omega) rfl (by omega) (by omega) rfl).mono ?_;rintro e w1 ⟨kd,rfl,kd0,kd1,hs,hgr⟩;have S1:=Hd ((S0.o.alloc (.cells #[.int .i64 1, .int .i64 1, .int .i64 2, .int .i64 2, .int .i64 3] 3)).step hs hgr);clear hs hgr hlt S0;go_wp2_with fail;have hlt:w.heap.size < w1.heap.size:=S1.o.rb.lt;refine (aF _ base g w1.heap.size _ 6 (0) 511 _ 3 (0,0) ((S1.o.alloc (.cells #[.int .i64 420, .int .i64 493, .int .i64 511, .int .i64 0, .int .i64 384, .int .i64 73] 3)).src) (by have:=HB.o;omega) (heap_alloc_new w1 _) (by omega) rfl (by omega) (by omega) rfl).mono ?_;rintro e w2 ⟨md,rfl,md0,md1,hs,hgr⟩;have S2:=Hd ((S1.o.alloc (.cells #[.int .i64 420, .int .i64 493, .int .i64 511, .int .i64 0, .int .i64 384, .int .i64 73] 3)).step hs hgr);clear hs hgr hlt S1;go_wp2_with fail;have hlt:w.heap.size < w2.heap.size:=S2.o.rb.lt;refine (aF _ base g w2.heap.size _ 4 (0) 7 _ 3 (0,0) ((S2.o.alloc (.cells #[.int .i64 0, .int .i64 0, .int .i64 5, .int .i64 7] 3)).src) (by have:=HB.o;omega) (heap_alloc_new w2 _) (by omega) rfl (by omega) (by omega) rfl).mono ?_;rintro e w3 ⟨ud,rfl,ud0,ud1,hs,hgr⟩;have S3:=Hd ((S2.o.alloc (.cells #[.int .i64 0, .int .i64 0, .int .i64 5, .int .i64 7] 3)).step hs hgr);clear hs hgr hlt S2;go_wp2_with fail;have hlt:w.heap.size < w3.heap.size:=S3.o.rb.lt;refine (aF _ base g w3.heap.size _ 3 (0) 7 _ 3 (0,0) ((S3.o.alloc (.cells #[.int .i64 0, .int .i64 5, .int .i64 7] 3)).src) (by have:=HB.o;omega) (heap_alloc_new w3 _) (by omega) rfl (by omega) (by omega) rfl).mono ?_;rintro e w4 ⟨gd,rfl,gd0,gd1,hs,hgr⟩;have S4:=Hd ((S3.o.alloc (.cells #[.int .i64 0, .int .i64 5, .int .i64 7] 3)).step hs hgr);clear hs hgr hlt S3;have hlt:w.heap.size < w4.heap.size:=S4.o.rb.lt;have C5:=Hd (show SaC w (w4.alloc (.cells (ndC ⟨0,kd,md,ud,gd,0,⟨#[]⟩, []⟩ (.slice none 0 0)) 145)) base g _ w4.heap.size ⟨0,kd,md,ud,gd,0,⟨#[]⟩, []⟩ from ⟨S4.o.alloc _,Blk.new w4 _ _,hlt⟩);clear S4;go_upto_region 2 with fail;generalize w4.alloc (.cells (ndC ⟨0,kd,md,ud,gd,0,⟨#[]⟩, []⟩ (.slice none 0 0)) 145)=w5 at *;have c1:=C5.o.cb.cell 1;by_cases hk:kd=3;case pos=>
  have q0:=(dY hk).1;clear hk;go_wp2_with fail;clear c1 q0;refine (jX w5 base g _ C5.o.f.src (by have:=HB.o;omega)).mono ?_;rintro e w6 ⟨s1,rfl,s10,hs,hgr⟩;have C6:=Hd (C5.o.step hs hgr);clear hs hgr C5;have c6:=C6.o.cb.cell 6;have f6:=C6.o.cb.free 6;have C7:=Hd (C6.o.put 6 (.string s1) (nd' :=⟨0,kd,md,ud,gd,0,s1, []⟩) rfl);clear C6;go_upto_region 4 with fail;clear c6 f6;generalize w6.setCell ⟨w4.heap.size,6,none⟩ (.string s1)=w7 at *;go_wp2_with fail;refine (bG w7 base g _ 20 C7.o.f.src (by have:=HB.o;omega) (by omega) (by omega)).mono ?_;rintro e w8 ⟨x,rfl,x0,x1,hs,hgr⟩;have C8:=Hd (C7.o.step hs hgr);clear hs hgr C7;by_cases hx:x=19;case pos=>
   have q1:=(dY hx).1;clear hx;go_wp2_with fail;have hlt:w.heap.size < w8.heap.size:=C8.o.f.rb.lt;refine (aF _ base g w8.heap.size _ 3 (-1) 512 _ 3 (0,0) ((C8.o.alloc (.cells #[.int .i64 (-1), .int .i64 512, .int .i64 420] 3)).f.src) (by have:=HB.o;omega) (heap_alloc_new w8 _) (by omega) rfl (by omega) (by omega) rfl).mono ?_;rintro e w9 ⟨m2,rfl,m20,m21,hs,hgr⟩;have C9:=Hd ((C8.o.alloc (.cells #[.int .i64 (-1), .int .i64 512, .int .i64 420] 3)).step hs hgr);clear hs hgr hlt C8;go_wp2_with fail;refine (jX w9 base g _ C9.o.f.src (by have:=HB.o;omega)).mono ?_;rintro e w10 ⟨s2,rfl,s20,hs,hgr⟩;have C10:=Hd (C9.o.step hs hgr);clear hs hgr C9;have c2:=C10.o.cb.cell 2;have c6:=C10.o.cb.cell 6;have f2:=C10.o.cb.free 2;have f6:=C10.o.cb.free 6;have D:=Hd ((C10.o.put 2 (.int .i64 m2) (nd' :=⟨0,kd,m2,ud,gd,0,s1, []⟩) rfl).put 6 (.string s2) (nd' :=⟨0,kd,m2,ud,gd,0,s2, []⟩) rfl);clear C10;go_upto_region 6 with fail;clear c2 c6 f2 f6;generalize (w10.setCell ⟨w4.heap.size,2,none⟩ (.int .i64 m2)).setCell ⟨w4.heap.size,6,none⟩ (.string s2)=wf at *;go_wp2_with (first | ((with_reducible refine aP ?_ 145 (.tmp 3) ?_ D.o.cb ?_ _ Tryz.underlying145 ?_ ?_ ?_);(iterate 4 rfl);exact iU _ _) | ((with_reducible refine ae ?_ 145 (.tmp 2) (.tmp 33) ?_ D.o.f.rb (ndC ⟨0,kd,m2,ud,gd,0,s2, []⟩ (.slice none 0 0)) ?_ ?_ ?_ ?_ ?_ ?_);(iterate 4 rfl);(exact iU _ _);rfl;(exact jW _ _ _ _)));refine bodyPost_ret (qD (fn:=Tryz.f169) rfl _ _ w.heap.size ⟨0,kd,m2,ud,gd,0,s2, []⟩ (.slice none 0 0) rfl (Blk.row D.o.f.rb _)) rfl ?_;exact D.o.fin (by omega) (s20)
  case neg=>
   have q1:=(bT hx).1;clear hx;have D:=C8;obtain ⟨wf,hwf⟩:∃ wf,wf=w8:=⟨_,rfl⟩;subst hwf;go_wp2_with (first | ((with_reducible refine aP ?_ 145 (.tmp 3) ?_ D.o.cb ?_ _ Tryz.underlying145 ?_ ?_ ?_);(iterate 4 rfl);exact iU _ _) | ((with_reducible refine ae ?_ 145 (.tmp 2) (.tmp 33) ?_ D.o.f.rb (ndC ⟨0,kd,md,ud,gd,0,s1, []⟩ (.slice none 0 0)) ?_ ?_ ?_ ?_ ?_ ?_);(iterate 4 rfl);(exact iU _ _);rfl;(exact jW _ _ _ _)));refine bodyPost_ret (qD (fn:=Tryz.f169) rfl _ _ w.heap.size ⟨0,kd,md,ud,gd,0,s1, []⟩ (.slice none 0 0) rfl (Blk.row D.o.f.rb _)) rfl ?_;exact D.o.fin (by omega) (s10)
 case neg=>
  have q0:=(bT hk).1;clear hk;go_upto_region 4 with fail;clear c1 q0;go_wp2_with fail;refine (bG w5 base g _ 20 C5.o.f.src (by have:=HB.o;omega) (by omega) (by omega)).mono ?_;rintro e w6 ⟨x,rfl,x0,x1,hs,hgr⟩;have C6:=Hd (C5.o.step hs hgr);clear hs hgr C5;by_cases hx:x=19;case pos=>
   have q1:=(dY hx).1;clear hx;go_wp2_with fail;have hlt:w.heap.size < w6.heap.size:=C6.o.f.rb.lt;refine (aF _ base g w6.heap.size _ 3 (-1) 512 _ 3 (0,0) ((C6.o.alloc (.cells #[.int .i64 (-1), .int .i64 512, .int .i64 420] 3)).f.src) (by have:=HB.o;omega) (heap_alloc_new w6 _) (by omega) rfl (by omega) (by omega) rfl).mono ?_;rintro e w7 ⟨m2,rfl,m20,m21,hs,hgr⟩;have C7:=Hd ((C6.o.alloc (.cells #[.int .i64 (-1), .int .i64 512, .int .i64 420] 3)).step hs hgr);clear hs hgr hlt C6;go_wp2_with fail;refine (jX w7 base g _ C7.o.f.src (by have:=HB.o;omega)).mono ?_;rintro e w8 ⟨s2,rfl,s20,hs,hgr⟩;have C8:=Hd (C7.o.step hs hgr);clear hs hgr C7;have c2:=C8.o.cb.cell 2;have c6:=C8.o.cb.cell 6;have f2:=C8.o.cb.free 2;have f6:=C8.o.cb.free 6;have D:=Hd ((C8.o.put 2 (.int .i64 m2) (nd' :=⟨0,kd,m2,ud,gd,0,⟨#[]⟩, []⟩) rfl).put 6 (.string s2) (nd' :=⟨0,kd,m2,ud,gd,0,s2, []⟩) rfl);clear C8;go_upto_region 6 with fail;clear c2 c6 f2 f6;generalize (w8.setCell ⟨w4.heap.size,2,none⟩ (.int .i64 m2)).setCell ⟨w4.heap.size,6,none⟩ (.string s2)=wf at *;go_wp2_with (first | ((with_reducible refine aP ?_ 145 (.tmp 3) ?_ D.o.cb ?_ _ Tryz.underlying145 ?_ ?_ ?_);(iterate 4 rfl);exact iU _ _) | ((with_reducible refine ae ?_ 145 (.tmp 2) (.tmp 33) ?_ D.o.f.rb (ndC ⟨0,kd,m2,ud,gd,0,s2, []⟩ (.slice none 0 0)) ?_ ?_ ?_ ?_ ?_ ?_);(iterate 4 rfl);(exact iU _ _);rfl;(exact jW _ _ _ _)));refine bodyPost_ret (qD (fn:=Tryz.f169) rfl _ _ w.heap.size ⟨0,kd,m2,ud,gd,0,s2, []⟩ (.slice none 0 0) rfl (Blk.row D.o.f.rb _)) rfl ?_;exact D.o.fin (by omega) (s20)
  case neg=>
   have q1:=(bT hx).1;clear hx;have D:=C6;obtain ⟨wf,hwf⟩:∃ wf,wf=w6:=⟨_,rfl⟩;subst hwf;go_wp2_with (first | ((with_reducible refine aP ?_ 145 (.tmp 3) ?_ D.o.cb ?_ _ Tryz.underlying145 ?_ ?_ ?_);(iterate 4 rfl);exact iU _ _) | ((with_reducible refine ae ?_ 145 (.tmp 2) (.tmp 33) ?_ D.o.f.rb (ndC ⟨0,kd,md,ud,gd,0,⟨#[]⟩, []⟩ (.slice none 0 0)) ?_ ?_ ?_ ?_ ?_ ?_);(iterate 4 rfl);(exact iU _ _);rfl;(exact jW _ _ _ _)));refine bodyPost_ret (qD (fn:=Tryz.f169) rfl _ _ w.heap.size ⟨0,kd,md,ud,gd,0,⟨#[]⟩, []⟩ (.slice none 0 0) rfl (Blk.row D.o.f.rb _)) rfl ?_;exact D.o.fin (by omega) (by show 0≤60;omega)
def je (w:World) (g:Nat):Nat→List Value→World
 | _, []=>w
 | o,u :: us=>je (w.setCell ⟨g,o,none⟩ u) g (o+1) us
def AU (xs:List Value):Nat→List Value→List Value
 | _, []=>xs
 | o,u :: us=>AU (xs.set o u) (o+1) us
theorem gF {a:World} {g:Nat} :∀ (us:List Value) (o:Nat) {w:World},a.grownBy w (some g)→a.grownBy (je w g o us) (some g)
 | [],_,_,h=>h
 | u :: us,o,w,h=>gF us (o+1) (ag h (.inl rfl) u)
theorem wU:∀ (us:List Value) (o:Nat) (xs:List Value),o+us.length≤xs.length→∀ i,(AU xs o us)[i]? =if o≤i∧i < o+us.length then us[i - o]? else xs[i]?
 | [],o,xs,_,i=>by
  rw [if_neg (by simp)];rfl
 | u :: us,o,xs,h,i=>by
  rw [List.length_cons] at h;unfold AU;rw [wU us (o+1) _ (by rw [List.length_set];omega) i];by_cases h1:i=o
  · subst h1;rw [if_neg (by omega),if_pos (by rw [List.length_cons];omega),List.getElem?_set,if_pos rfl,if_pos (by omega),Nat.sub_self];rfl
  · by_cases h2:o+1≤i∧i < o+1+us.length
    · rw [if_pos h2,if_pos (by rw [List.length_cons];omega),show i - o=(i - (o+1))+1 by omega];rfl
    · rw [if_neg h2,if_neg (by rw [List.length_cons];omega),List.getElem?_set,if_neg (by omega)]
theorem wV {base g n c:Nat} {e:TypeId} {sz:Nat} :∀ (us:List Value) (o:Nat) {w:World} {xs:List Value},w.ownsRow base e sz (.slice (some ⟨g,0,none⟩) n c) n xs→(je w g o us).ownsRow base e sz (.slice (some ⟨g,0,none⟩) n c) n (AU xs o us)
 | [],_,_,_,h=>h
 | u :: us,o,_,_,h=>wV us (o+1) (World.ownsRow.stored h o u).1
section
variable {α:Type} {E:El α} {w:World} {base g n c:Nat} {L:List α}
theorem El.AV (E:El α) (L:List α) (k:Nat) (hk:k < L.length) (x' :α):AU (L.flatMap E.C) (k * E.sz) (E.C x')=(L.set k x').flatMap E.C:=by
 have hlen:k * E.sz+(E.C x').length≤(L.flatMap E.C).length:=by
   rw [E.flat,E.len];have:(k+1) * E.sz≤L.length * E.sz:=Nat.mul_le_mul_right _ hk;rw [Nat.succ_mul] at this;exact this
 refine List.ext_getElem? fun i=>?_;rw [wU _ _ _ hlen,E.len];have hdiv:i=i / E.sz * E.sz+i % E.sz:=by rw [Nat.mul_comm];exact (Nat.div_add_mod i E.sz).symm
 have hm:=Nat.mod_lt i E.pos;have hpos:=E.pos;by_cases hi:i / E.sz < L.length
 · have h2:=E.fe (L.set k x') (i / E.sz) (by rw [List.length_set];exact hi) (i % E.sz) hm;have h3:=E.fe L (i / E.sz) hi (i % E.sz) hm;rw [← hdiv] at h2 h3;rw [h2];by_cases hik:i / E.sz=k
   · have e1:k * E.sz≤i∧i < k * E.sz+E.sz:=by
      rw [← hik];constructor
      · omega
      · omega
     rw [if_pos e1];have e2:i - k * E.sz=i % E.sz:=(by rw [← hik];omega);rw [e2,List.getElem_set,if_pos hik.symm]
   · have e1:¬ (k * E.sz≤i∧i < k * E.sz+E.sz):=fun ⟨a,b⟩=>hik (by
      refine Nat.div_eq_of_lt_le ?_ ?_
      · exact a
      · show i < (k+1) * E.sz;rw [Nat.succ_mul];exact b)
     rw [if_neg e1,h3,List.getElem_set,if_neg (fun e=>hik e.symm)]
 · have hge:L.length * E.sz≤i:=by
     have:L.length * E.sz≤i / E.sz * E.sz:=Nat.mul_le_mul_right _ (by omega);omega
   rw [List.getElem?_eq_none (l:=(L.set k x').flatMap E.C) (by rw [E.flat,List.length_set];exact hge),if_neg (fun ⟨a,b⟩=>by
     have:(k+1) * E.sz≤L.length * E.sz:=Nat.mul_le_mul_right _ hk;rw [Nat.succ_mul] at this;omega),List.getElem?_eq_none (by rw [E.flat];exact hge)]
theorem ax.puts (h:ax E w base (.slice (some ⟨g,0,none⟩) n c) L) {k:Nat} {x' :α} (hk:k < L.length):ax E (je w g (k * E.sz) (E.C x')) base (.slice (some ⟨g,0,none⟩) n c) (L.set k x'):=by
 have hl:L.length=n:=by
  obtain ⟨A,c',e,_⟩:=h.at;injection e with _ e _;exact e.symm
 unfold ax at h ⊢;rw [List.length_set, ← El.AV E L k hk x'];rw [hl] at h ⊢;exact wV _ _ h
end
theorem aC.Pb {w:World} {base:Nat} {v:Value} {ds:List Dm} (h:aC w base v ds) {j k g:Nat} (hj:j < ds.length) (hk:k < ds[j].xs.length) (hA:ds[j].A=some ⟨g,0,none⟩) {x' :Nm} (hsz:jU x'.nd)
   (ho:ax EEn w base x'.sl x'.nd.es):aC (je w g (k * 8) (ENd.C x')) base v (ds.set j ⟨ds[j].nx,ds[j].xs.set k x',ds[j].A,ds[j].c⟩):=by
 have hd:=(h.nodes _ (List.getElem_mem hj));have hown:(ds[j].sl).ownBlock=some g:=by show (Value.slice ds[j].A _ _).ownBlock=_;rw [hA];rfl
 have hgc:=gF (ENd.C x') (k * 8) (World.grownBy.refl w (some g));have hne:∀ {x:Nm},ax EEn w base x.sl x.nd.es→∀ q,x.sl.ownBlock=some q→some g≠some q:=fun {x} hx q e r=>by
   injection r with r;subst r;exact aH hx hd.1 (show (209:Nat)≠145 by decide) _ e hown
 have hv:ax EDv (je w g (k * 8) (ENd.C x')) base v (ds.set j ⟨ds[j].nx,ds[j].xs.set k x',ds[j].A,ds[j].c⟩):=by
   have h1:=h.own.far hgc (fun q e r=>by
     injection r with r;subst r;exact aH h.own hd.1 (show (142:Nat)≠145 by decide) _ e hown)
   have e:(ds.set j ⟨ds[j].nx,ds[j].xs.set k x',ds[j].A,ds[j].c⟩).flatMap EDv.C=ds.flatMap EDv.C:=by
     have:=El.mf EDv (x' :=⟨ds[j].nx,ds[j].xs.set k x',ds[j].A,ds[j].c⟩) (j:=0) (u:= .int .i64 ds[j].nx) ds j hj (by show _=List.set [_,_] 0 _;simp [EDv]) (by show 0 < 2;omega);rw [← this];refine List.ext_getElem? fun q=>?_;rw [List.getElem?_set];split
     · rename_i hq;subst hq;have hf:=EDv.fe ds j hj 0 (by show 0 < 2;omega);split
       · rw [hf];rfl
       · rename_i hlt;rw [List.getElem?_eq_none (by omega)]
     · rfl
   unfold ax at h1 ⊢;rw [e,List.length_set];exact h1
 refine h.Om hj hgc hv ⟨?_,?_⟩ ?_ ?_ ?_
 · show ax ENd _ base (.slice ds[j].A (ds[j].xs.set k x').length ds[j].c) (ds[j].xs.set k x');have h1:ax ENd w base (.slice ds[j].A ds[j].xs.length ds[j].c) ds[j].xs:=hd.1;rw [hA] at h1 ⊢;rw [List.length_set];exact h1.puts hk
 · show (ds[j].xs.set k x').length≤1000;rw [List.length_set];exact hd.2
 · intro y hy;rcases kN hy with rfl | hy
   · exact ⟨ho.far hgc (fun q e r=>hne ho q e r),hsz⟩
   · have h2:=h.cO _ (List.getElem_mem hj) y hy;exact ⟨h2.1.far hgc (fun q e r=>hne h2.1 q e r),h2.2⟩
 · intro q hq hqj g' e;refine ⟨fun r=>?_,?_⟩
   · injection r with r;subst r;exact h.other hq hj hqj e hown
   · intro r;exact h.other hq hj hqj e (by
       have r:(Value.slice ds[j].A (ds[j].xs.set k x').length ds[j].c).ownBlock=some g' :=r;show (Value.slice ds[j].A _ _).ownBlock=_;rw [hA] at r ⊢;exact r)
 · intro d hd' x hx' q e r;exact hne (h.cO d hd' x hx').1 q e r
end Go.Proofs.YtollifnnpihfdaaGreatDoor
