import Derived.Test.YtollifnnpihfdaaGreatDoorG36
import Derived.Test.YtollifnnpihfdaaGreatDoorG41
set_option maxRecDepth 100000
set_option maxHeartbeats 64000000
set_option linter.all false
namespace Go.Proofs.YtollifnnpihfdaaGreatDoor
open Go.RowKit
theorem wW.uni {R:List Dv→List Mt→Prop} {w w' :World} {e:Ending} (h:wW R w e w'):∃ (A:Option Addr) (n c:Nat) (Am:Option Addr) (nm cm:Nat) (ke:Int),e= .returned (.tuple #[.agg (spC (slV A n c) (slV Am nm cm)), .int .i64 ke])∧Below w.heap.size w w' ∧(ke≠0∨∃ ds ms,aC w' w.heap.size (slV A n c) ds∧ax EMt w' w.heap.size (slV Am nm cm) ms∧R (ds.map Dm.dv) ms):=by
 obtain ⟨h1,⟨k,hk,rfl⟩ | ⟨A,n,c,Am,nm,cm,ds,ms,rfl,h2,h3,h4⟩⟩:=h
 · exact ⟨none,0,0,none,0,0,k,rfl,h1, .inl hk⟩
 · exact ⟨A,n,c,Am,nm,cm,0,rfl,h1, .inr ⟨ds,ms,h2,h3,h4⟩⟩
theorem aC.TQ {w:World} {base k:Nat} {v:Value} {ds:List Dm} {cs:Array Value} (h:aC w base v ds) (hk:Blk w k 31 cs):v.ownBlock≠some k∧(∀ d∈ds,d.sl.ownBlock≠some k)∧∀ d∈ds,∀ x∈d.xs,x.sl.ownBlock≠some k:=
 ⟨ay h.own hk (by decide),fun dd hdd=>ay (h.nodes dd hdd).1 hk (by decide),fun dd hdd y hy=>ay (h.cO dd hdd y hy).1 hk (by decide)⟩
theorem uw {a b c:World} {r s:Option Nat} (h:a.grownBy b r) (k:b.grownBy c s) (hs:∀ x,s=some x→a.heap.size≤x):a.grownBy c r:=
 ⟨k.os.trans h.os,k.tape.trans h.tape,k.output.trans h.output,Nat.le_trans h.size k.size,fun i hi hne=>(k.block i (Nat.lt_of_lt_of_le hi h.size) (fun e=>by have:=hs i e.symm;omega)).trans (h.block i hi hne)⟩
def dD (w:World) (lo:Nat) (A:Option Addr) (n c:Nat) (Am:Option Addr) (nm cm:Nat) (j:Nat):Prop:=∃ (ds:List Dm) (ms:List Mt),aC w lo (slV A n c) ds∧ax EMt w lo (slV Am nm cm) ms∧SOk (ds.map Dm.dv) ms∧ms.length≤j
theorem dD.far {w w' :World} {lo j k:Nat} {A Am:Option Addr} {n c nm cm:Nat} {cs:Array Value} (h:dD w lo A n c Am nm cm j) (hk:Blk w k 31 cs) (hg:w.grownBy w' (some k)):dD w' lo A n c Am nm cm j:=by
 obtain ⟨ds,ms,h1,h2,h3⟩:=h;exact ⟨ds,ms,h1.far hg (fun q e=>by injection e with e;subst e;exact h1.TQ hk),h2.far hg (fun q e r=>by injection r with r;subst r;exact ay h2 hk (by decide) e),h3⟩
theorem dD.src {w w' :World} {lo j g:Nat} {A Am:Option Addr} {n c nm cm:Nat} (h:dD w lo A n c Am nm cm j) (hl:g < lo) (hg:w.grownBy w' (some g)):dD w' lo A n c Am nm cm j:=by
 obtain ⟨ds,ms,h1,h2,h3⟩:=h;exact ⟨ds,ms,h1.far hg (fun q e=>by injection e with e;subst e;exact h1.old hl),h2.far hg (fun q e r=>by injection r with r;have:=h2.ge q e;omega),h3⟩
theorem dD.below {w w' :World} {lo j:Nat} {A Am:Option Addr} {n c nm cm:Nat} (h:dD w lo A n c Am nm cm j) (hb:Below w.heap.size w w'):dD w' lo A n c Am nm cm j:=by
 obtain ⟨ds,ms,h1,h2,h3⟩:=h;exact ⟨ds,ms,h1.below hb,h2.below hb,h3⟩
theorem dD.low {w:World} {lo lo' j:Nat} {A Am:Option Addr} {n c nm cm:Nat} (h:dD w lo A n c Am nm cm j) (hl:lo' ≤lo):dD w lo' A n c Am nm cm j:=by
 obtain ⟨ds,ms,h1,h2,h3⟩:=h;exact ⟨ds,ms,h1.low hl,h2.low hl,h3⟩
structure SsS (w wr:World) (base g gs:Nat) (b:Int) (A:Option Addr) (n c:Nat) (Am:Option Addr) (nm cm:Nat) (j:Nat):Prop where
 src:aB wr base g b
 only:w.grownBy wr (some g)
 R:Blk wr w.heap.size 31 #[slV none 0 0,slV none 0 0]
 B:Blk wr gs 31 #[slV A n c,slV Am nm cm]
 own:dD wr w.heap.size A n c Am nm cm j
 hg:g < w.heap.size
 hs:w.heap.size < gs
section
variable {w wr w' :World} {base g gs n c nm cm j:Nat} {b b' :Int} {A Am:Option Addr}
theorem SsS.step (h:SsS w wr base g gs b A n c Am nm cm j) (hg:wr.grownBy w' (some g)) (hs:aB w' base g b'):SsS w w' base g gs b' A n c Am nm cm j:=by
 have h1:=h.hg;have h2:=h.hs;exact ⟨hs,dJ h.only hg,h.R.src hg (by omega),h.B.src hg (by omega),h.own.src h1 hg,h1,h2⟩
theorem SsS.below (h:SsS w wr base g gs b A n c Am nm cm j) (hb:Below wr.heap.size wr w'):SsS w w' base g gs b A n c Am nm cm j:=
 ⟨h.src.below hb,bE h.only hb,h.R.below hb,h.B.below hb,h.own.below hb,h.hg,h.hs⟩
theorem SsS.more (h:SsS w wr base g gs b A n c Am nm cm j) (hb:b≤b'):SsS w wr base g gs b' A n c Am nm cm j:=⟨h.src.more hb,h.only,h.R,h.B,h.own,h.hg,h.hs⟩
theorem SsS.far (h:SsS w wr base g gs b A n c Am nm cm j) {k:Nat} {cs:Array Value} (hk:Blk wr k 31 cs) (h1:w.heap.size < k) (h2:k≠gs) (hg:wr.grownBy w' (some k)):SsS w w' base g gs b A n c Am nm cm j:=by
 have h3:=h.hg;have h4:=h.hs;have hb:=h.src.1;exact ⟨h.src.grown hg (fun r e=>by injection e with e;exact ⟨by omega,by omega⟩),uw h.only hg (fun x e=>by injection e with e;omega),h.R.grown hg (fun e=>by injection e with e;omega),h.B.grown hg (fun e=>by injection e with e;omega),h.own.far hk hg,h3,h4⟩
theorem SsS.set (h:SsS w wr base g gs b A n c Am nm cm j) {A2 Am2:Option Addr} {n2 c2 nm2 cm2 j2:Nat} (h2:dD wr w.heap.size A2 n2 c2 Am2 nm2 cm2 j2):SsS w (wr.setRow gs #[slV A2 n2 c2,slV Am2 nm2 cm2]) base g gs b A2 n2 c2 Am2 nm2 cm2 j2:=by
 have h3:=h.hg;have h4:=h.hs;have hb:=h.src.1;have hgx:=aJ wr gs #[slV A2 n2 c2,slV Am2 nm2 cm2];exact ⟨h.src.grown hgx (fun r e=>by injection e with e;exact ⟨by omega,by omega⟩),eD h.only (by omega) _,h.R.aS _ (by omega),h.B.row _,h2.far h.B hgx,h3,h4⟩
end
def Mf (w:World) (base g:Nat) (b:Int) (e:Ending) (w' :World):Prop:=∃ (A:Option Addr) (n c:Nat) (Am:Option Addr) (nm cm:Nat),e= .returned (.agg #[slV A n c,slV Am nm cm])∧dD w' w.heap.size A n c Am nm cm 3∧aB w' base g b∧w.grownBy w' (some g)
theorem BS (w:World) (base g:Nat) (b:Int) (h:aB w base g b) (hb:b≤1000000000):
  Calls Tryz.prog 20 #[.pointer (some ⟨g,0,none⟩)] w (Mf w base g (b+1400)):=by
 have HB:=Hd hb;have hgw:g < w.heap.size:=aW h;have hbase:base≤w.heap.size:=by have:=h.1;omega
 have S0:=Hd (h.alloc (.cells #[slV none 0 0,slV none 0 0] 31));have R0:=Hd (Blk.new w #[slV none 0 0,slV none 0 0] 31);have O0:=Hd (av (World.grownBy.refl w (some g)) (.cells #[slV none 0 0,slV none 0 0] 31));have hw0:(w.alloc (.cells #[slV none 0 0,slV none 0 0] 31)).heap.size=w.heap.size+1:=by simp
 clear h hb;go_in;go_upto_region 1 with fail;generalize w.alloc (.cells #[slV none 0 0,slV none 0 0] 31)=w0 at *;go_wp2_with fail;refine (BR w0 base g b S0.o (by have:=HB.o;omega)).mono ?_;rintro e w1 ⟨A0,n0,c0,ds,rfl,hfo,hfk,hs,hgr⟩;have B1:=Hd (Blk.new w1 #[slV A0 n0 c0,slV none 0 0] 31);have hw1:w0.heap.size≤w1.heap.size:=hgr.size;have hbn:Below w1.heap.size w1 (w1.alloc (.cells #[slV A0 n0 c0,slV none 0 0] 31)):=(Below.refl _ _).alloc (Nat.le_refl _) _;have L1:=Hd (show SsS w (w1.alloc (.cells #[slV A0 n0 c0,slV none 0 0] 31)) base g w1.heap.size (b+1300) A0 n0 c0 none 0 0 0 from ⟨hs.below hbn,bE (dJ O0.o hgr) hbn,(R0.o.src hgr (by omega)).below hbn,B1.o,⟨ds, [],(hfo.low (by omega)).below hbn,ax.nil _ _,⟨hfk, .nil⟩,Nat.le_refl _⟩,hgw,by omega⟩);clear hfo hfk hs hgr hbn S0 R0 O0 B1;have hgs:w.heap.size < w1.heap.size:=by omega
 go_upto_region 2 with fail;generalize w1.alloc (.cells #[slV A0 n0 c0,slV none 0 0] 31)=w2 at *;go_wp2_with fail;refine (bG w2 base g (b+1300) 4 L1.o.src (by have:=HB.o;omega) (by omega) (by omega)).mono ?_;rintro e w3 ⟨y,rfl,y0,y1,hs,hgr⟩;obtain ⟨k0,rfl⟩:=Int.eq_ofNat_of_zero_le y0;have L4:=Hd (L1.o.step hgr hs);clear hs hgr L1;go_wp2_with fail;go_loopw [4] (fun ix wr=>∃ (k:Nat) (A:Option Addr) (n c:Nat) (Am:Option Addr) (nm cm:Nat),k≤3∧ix= .int .i64 k∧Hid (SsS w wr base g w1.heap.size (b+1320+10 * (3 - k)) A n c Am nm cm (3 - k))) (fun ix _=>(intOf ix).toNat);case atStart=>exact ⟨k0,A0,n0,c0,none,0,0,by omega,rfl,Hd ⟨(L4.o.more (b' :=b+1320+10 * (3 - k0)) (by omega)).src,L4.o.only,L4.o.R,L4.o.B,by obtain ⟨ds,ms,q1,q2,q3,q4⟩:=L4.o.own;exact ⟨ds,ms,q1,q2,q3,by omega⟩,L4.o.hg,L4.o.hs⟩⟩
 case round=>
  clear L4 y0 y1;obtain ⟨k,A,n,c,Am,nm,cm,hk,rfl,HS⟩:=hrel;by_cases hpos:0 < k;case neg=>
   have q1:¬ (0:Int) < (k:Int):=(by omega);have s0:=HS.o.B.cell 0;have s1:=HS.o.B.cell 1;go_wp2_with ((with_reducible refine ae ?_ 31 (.tmp 2) (.tmp 30) ?_ HS.o.R #[slV A n c,slV Am nm cm] ?_ ?_ ?_ ?_ ?_ ?_);(iterate 4 rfl);(exact jf _ _);rfl;(exact gQ _ _ _ _ _ _));refine bodyPost_ret (FO (fn:=Tryz.f20) rfl _ _ w.heap.size (slV A n c) (slV Am nm cm) rfl (Blk.row HS.o.R _)) rfl ?_;have hgx:=aJ wr w.heap.size #[slV A n c,slV Am nm cm];obtain ⟨ds,ms,q1,q2,q3,q4⟩:=HS.o.own.far HS.o.R hgx;exact ⟨A,n,c,Am,nm,cm,rfl,⟨ds,ms,q1,q2,q3,by omega⟩,(HS.o.src.more (by omega)).grown hgx (fun r e=>by injection e with e;exact ⟨by omega,by omega⟩),eD HS.o.only (Nat.le_refl _) _⟩
  case pos=>
   obtain ⟨k',rfl⟩:∃ k',k=k' +1:=⟨k - 1,by omega⟩;have q1:(0:Int) < ((k' +1:Nat):Int):=(by omega);have wk:IntKind.i64.wrap (((k' +1:Nat):Int) - 1)=(k' :Int):=(by rw [show (((k' +1:Nat):Int) - 1)=(k' :Int) by omega];exact IntWalk.i64_in _ (by omega));have wk2:wrap64 (((k' +1:Nat):Int) - 1)=(k' :Int):=(by rw [show (((k' +1:Nat):Int) - 1)=(k' :Int) by omega];exact IntWalk.wrap64_in _ (by omega));have WK:=Hd (And.intro wk wk2);clear wk wk2 hpos;obtain ⟨bb,hbb⟩:∃ bb:Int,bb=b+1320+10 * (3 - ((k' +1:Nat):Int)):=⟨_,rfl⟩;rw [← hbb] at HS;have HBB:=Hd hbb;clear hbb;go_upto_region 5 with fail;have C5:=Hd (HS.o.below (Below.refl wr.heap.size wr).drew);have O5:=Hd HS.o.own;clear HS;refine wp_region_held_drew (S:=(fun W=>Blk W w1.heap.size 31 #[slV A n c,slV Am nm cm])) (by kernel_rfl) C5.o.B (fun hHeld=>?_);generalize wr.drew=w5 at *;refine tk hHeld 0 ?_ ?_ (tk hHeld 1 ?_ ?_ (tk hHeld 3 ?_ ?_ (tk hHeld 4 ?_ ?_ (tk hHeld 5 ?_ ?_ ?_))));iterate 5
     rotate_left
     · intro W hSw;have s0:=hSw.cell 0;have s1:=hSw.cell 1;go_simp;try (with_reducible rfl)
   refine wpAnyH_ready (rs:= [2,11]) (by kernel_rfl) (by simp) ?_;refine AllReadyH.cons rfl (fun K hK=>?_) (AllReadyH.cons rfl (fun K hK=>?_) AllReadyH.nil)
   · go_simp;go_at_call 38;refine (aA w5 base g bb 1 2 C5.o.src (by have:=HB.o;have:=HBB.o;omega) (by omega) (by omega) (by omega)).mono ?_;rintro e w5r ⟨x,rfl,x0,x1,hs,hgr⟩;have C5r:=Hd (C5.o.step hgr hs);clear hs hgr C5 x0 x1;go_simp;refine hK.o _ _ C5r.o.B (fun hHeld=>?_);clear hK K;refine wpAnyH_ready (rs:= [6,11]) (by kernel_rfl) (by simp) ?_;refine AllReadyH.cons rfl (fun K hK=>?_) (AllReadyH.cons rfl (fun K hK=>?_) AllReadyH.nil)
     · go_simp;go_at_call 22;obtain ⟨ds,ms,ho1,ho2,ho3,ho4⟩:=C5r.o.own;refine (iK w5r base g (bb+1) C5r.o.src (by have:=HB.o;have:=HBB.o;omega) w.heap.size A n c ds ho1 hgw C5r.o.only.size ho3.1).mono ?_;clear ho1 ho2 ho3 ho4 ds ms;rintro e vR ⟨d2,i2,rfl,hs,hgr⟩;have qV:=Hd (C5r.o.step hgr hs);clear hs hgr C5r;go_simp;refine hK.o _ _ qV.o.B (fun hHeld=>?_);clear hK K;refine wpAnyH_ready (rs:= [7,11]) (by kernel_rfl) (by simp) ?_;refine AllReadyH.cons rfl (fun K hK=>?_) (AllReadyH.cons rfl (fun K hK=>?_) AllReadyH.nil)
       · go_simp;go_at_call 59;obtain ⟨ds,ms,ho1,ho2,ho3,ho4⟩:=qV.o.own;have hlm:nm=ms.length:=(by obtain ⟨A7,c7,e7,_⟩:=ho2.at;injection e7);refine (wX x d2 i2 ds A n c ho1.mi.2 ms Am nm cm hlm (by omega) vR ho1.mi.1 (bB ho2)).mono ?_;rintro e iZ hpp;obtain ⟨A2,n2,c2,Am2,nm2,cm2,ke,rfl,hb,hor⟩:=hpp.uni;have BU:=Hd (show ke≠0∨dD iZ w.heap.size A2 n2 c2 Am2 nm2 cm2 (3 - k') from hor.imp id (fun ⟨ds2,ms2,r1,r2,r3⟩=>dD.low ⟨ds2,ms2,r1,r2,ho3.add r3,by rw [r3.2.2.2.2.2.2,List.length_append];show ms.length+1≤_;omega⟩ qV.o.only.size));clear ho1 ho2 ho3 ho4 hor hpp hlm ds ms;have nU:=Hd (qV.o.below hb);clear hb qV;go_simp;refine hK.o _ _ nU.o.B (fun hHeld=>?_);clear hK K;refine tk hHeld 8 ?_ ?_ (tk hHeld 9 ?_ ?_ (tk hHeld 10 ?_ ?_ ?_));iterate 3
           rotate_left
           · intro W hSw;go_simp;try (with_reducible rfl)
         refine rdy1 11 (fun K hK=>?_);have lJ:=Hd (nU.o.below ((Below.refl iZ.heap.size iZ).alloc (Nat.le_refl _) (.cells #[slV none 0 0,slV none 0 0] 31)));have eQ:=Hd (Blk.new iZ #[slV none 0 0,slV none 0 0] 31);have HGT:=Hd (show w1.heap.size < iZ.heap.size from nU.o.B.lt);have uy:=Hd (BU.o.imp id (fun h=>h.below ((Below.refl iZ.heap.size iZ).alloc (Nat.le_refl _) (.cells #[slV none 0 0,slV none 0 0] 31))));clear BU;clear nU;go_simp;generalize hgb:iZ.heap.size=gb at *;generalize iZ.alloc (.cells #[slV none 0 0,slV none 0 0] 31)=jh at *;refine hK.o _ _ lJ.o.B (fun hHeld=>?_);clear hK K hgb;have g0:=eQ.o.cell 0;have g1:=eQ.o.cell 1;have f0:=eQ.o.free 0;have f1:=eQ.o.free 1;have hgx:jh.grownBy ((jh.setCell ⟨gb,0,none⟩ (slV A2 n2 c2)).setCell ⟨gb,1,none⟩ (slV Am2 nm2 cm2)) (some gb):=ag (p:=⟨gb,1,none⟩) (ag (p:=⟨gb,0,none⟩) (World.grownBy.refl jh (some gb)) (.inl rfl) _) (.inl rfl) _;have CX:=Hd (lJ.o.far eQ.o (by have:=HGT.o;omega) (by have:=HGT.o;omega) hgx);have TX:=Hd (show Blk ((jh.setCell ⟨gb,0,none⟩ (slV A2 n2 c2)).setCell ⟨gb,1,none⟩ (slV Am2 nm2 cm2)) gb 31 #[slV A2 n2 c2,slV Am2 nm2 cm2] from (eQ.o.put 0 _).put 1 _);have NX:=Hd (uy.o.imp id (fun h=>h.far eQ.o hgx));clear hgx;refine rdy1 12 (fun K hK=>?_);go_simp;refine hK.o _ _ CX.o.B (fun hHeld=>?_);clear hK K;clear g0 g1 f0 f1 lJ eQ uy;refine tk hHeld 13 ?_ ?_ ?_;rotate_left
         · intro W hSw;go_simp;try (with_reducible rfl)
         refine wpAnyH_done (by kernel_rfl) ?_ _;generalize ((jh.setCell ⟨gb,0,none⟩ (slV A2 n2 c2)).setCell ⟨gb,1,none⟩ (slV Am2 nm2 cm2))=wz at *;by_cases hke:ke=0;case neg=>
           have q3:=(bT hke).1;obtain ⟨wk,wk2⟩:=WK.o;go_wp2_with fail;clear wk wk2;(try dsimp only [Act.put]);go_roundw;case rel=>exact ⟨k',A,n,c,Am,nm,cm,by omega,rfl,Hd ⟨(CX.o.more (b' :=b+1320+10 * (3 - (k' :Int))) (by have:=HBB.o;omega)).src,CX.o.only,CX.o.R,CX.o.B,by obtain ⟨ds,ms,q1,q2,q3,q4⟩:=CX.o.own;exact ⟨ds,ms,q1,q2,q3,by omega⟩,CX.o.hg,CX.o.hs⟩⟩
           case measure=>simp [intOf]
         case pos=>
           have q3:=(dY hke).1;have t0:=TX.o.cell 0;have t1:=TX.o.cell 1;obtain ⟨wk,wk2⟩:=WK.o;have LN:=Hd ((CX.o.more (b' :=b+1320+10 * (3 - (k' :Int))) (by have:=HBB.o;omega)).set (NX.o.resolve_left (fun h=>h hke)));go_wp2_with ((with_reducible refine ae ?_ 31 (.tmp 3) (.tmp 29) ?_ CX.o.B #[slV A2 n2 c2,slV Am2 nm2 cm2] ?_ ?_ ?_ ?_ ?_ ?_);(iterate 4 rfl);(exact jf _ _);rfl;(exact gQ _ _ _ _ _ _));clear wk wk2 t0 t1;(try dsimp only [Act.put]);go_roundw;case rel=>exact ⟨k',A2,n2,c2,Am2,nm2,cm2,by omega,rfl,LN⟩
           case measure=>simp [intOf]
       · have lg:=Hd (qV.o.below ((Below.refl vR.heap.size vR).alloc (Nat.le_refl _) (.cells #[slV none 0 0,slV none 0 0] 31)));have BV:=Hd (Blk.new vR #[slV none 0 0,slV none 0 0] 31);have HGT:=Hd (show w1.heap.size < vR.heap.size from qV.o.B.lt);clear qV;go_simp;generalize hgb:vR.heap.size=gb at *;generalize vR.alloc (.cells #[slV none 0 0,slV none 0 0] 31)=IQ at *;refine hK.o _ _ lg.o.B (fun hHeld=>?_);clear hK K hgb;refine rdy1 7 (fun K hK=>?_);go_simp;go_at_call 59;obtain ⟨ds,ms,ho1,ho2,ho3,ho4⟩:=lg.o.own;have hlm:nm=ms.length:=(by obtain ⟨A7,c7,e7,_⟩:=ho2.at;injection e7);refine (wX x d2 i2 ds A n c ho1.mi.2 ms Am nm cm hlm (by omega) IQ ho1.mi.1 (bB ho2)).mono ?_;rintro e iP hpp;obtain ⟨A2,n2,c2,Am2,nm2,cm2,ke,rfl,hb,hor⟩:=hpp.uni;have uz:=Hd (show ke≠0∨dD iP w.heap.size A2 n2 c2 Am2 nm2 cm2 (3 - k') from hor.imp id (fun ⟨ds2,ms2,r1,r2,r3⟩=>dD.low ⟨ds2,ms2,r1,r2,ho3.add r3,by rw [r3.2.2.2.2.2.2,List.length_append];show ms.length+1≤_;omega⟩ lg.o.only.size));clear ho1 ho2 ho3 ho4 hor hpp hlm ds ms;have lK:=Hd (lg.o.below hb);have eT:=Hd (BV.o.below hb);clear BV;clear hb lg;go_simp;refine hK.o _ _ lK.o.B (fun hHeld=>?_);clear hK K;refine tk hHeld 8 ?_ ?_ (tk hHeld 9 ?_ ?_ (tk hHeld 10 ?_ ?_ ?_));iterate 3
           rotate_left
           · intro W hSw;go_simp;try (with_reducible rfl)
         have g0:=eT.o.cell 0;have g1:=eT.o.cell 1;have f0:=eT.o.free 0;have f1:=eT.o.free 1;have hgx:iP.grownBy ((iP.setCell ⟨gb,0,none⟩ (slV A2 n2 c2)).setCell ⟨gb,1,none⟩ (slV Am2 nm2 cm2)) (some gb):=ag (p:=⟨gb,1,none⟩) (ag (p:=⟨gb,0,none⟩) (World.grownBy.refl iP (some gb)) (.inl rfl) _) (.inl rfl) _;have CX:=Hd (lK.o.far eT.o (by have:=HGT.o;omega) (by have:=HGT.o;omega) hgx);have TX:=Hd (show Blk ((iP.setCell ⟨gb,0,none⟩ (slV A2 n2 c2)).setCell ⟨gb,1,none⟩ (slV Am2 nm2 cm2)) gb 31 #[slV A2 n2 c2,slV Am2 nm2 cm2] from (eT.o.put 0 _).put 1 _);have NX:=Hd (uz.o.imp id (fun h=>h.far eT.o hgx));clear hgx;refine rdy1 12 (fun K hK=>?_);go_simp;refine hK.o _ _ CX.o.B (fun hHeld=>?_);clear hK K;clear g0 g1 f0 f1 lK eT uz;refine tk hHeld 13 ?_ ?_ ?_;rotate_left
         · intro W hSw;go_simp;try (with_reducible rfl)
         refine wpAnyH_done (by kernel_rfl) ?_ _;generalize ((iP.setCell ⟨gb,0,none⟩ (slV A2 n2 c2)).setCell ⟨gb,1,none⟩ (slV Am2 nm2 cm2))=wz at *;by_cases hke:ke=0;case neg=>
           have q3:=(bT hke).1;obtain ⟨wk,wk2⟩:=WK.o;go_wp2_with fail;clear wk wk2;(try dsimp only [Act.put]);go_roundw;case rel=>exact ⟨k',A,n,c,Am,nm,cm,by omega,rfl,Hd ⟨(CX.o.more (b' :=b+1320+10 * (3 - (k' :Int))) (by have:=HBB.o;omega)).src,CX.o.only,CX.o.R,CX.o.B,by obtain ⟨ds,ms,q1,q2,q3,q4⟩:=CX.o.own;exact ⟨ds,ms,q1,q2,q3,by omega⟩,CX.o.hg,CX.o.hs⟩⟩
           case measure=>simp [intOf]
         case pos=>
           have q3:=(dY hke).1;have t0:=TX.o.cell 0;have t1:=TX.o.cell 1;obtain ⟨wk,wk2⟩:=WK.o;have LN:=Hd ((CX.o.more (b' :=b+1320+10 * (3 - (k' :Int))) (by have:=HBB.o;omega)).set (NX.o.resolve_left (fun h=>h hke)));go_wp2_with ((with_reducible refine ae ?_ 31 (.tmp 3) (.tmp 29) ?_ CX.o.B #[slV A2 n2 c2,slV Am2 nm2 cm2] ?_ ?_ ?_ ?_ ?_ ?_);(iterate 4 rfl);(exact jf _ _);rfl;(exact gQ _ _ _ _ _ _));clear wk wk2 t0 t1;(try dsimp only [Act.put]);go_roundw;case rel=>exact ⟨k',A2,n2,c2,Am2,nm2,cm2,by omega,rfl,LN⟩
           case measure=>simp [intOf]
     · have yJ:=Hd (C5r.o.below ((Below.refl w5r.heap.size w5r).alloc (Nat.le_refl _) (.cells #[slV none 0 0,slV none 0 0] 31)));have Mg:=Hd (Blk.new w5r #[slV none 0 0,slV none 0 0] 31);have HGT:=Hd (show w1.heap.size < w5r.heap.size from C5r.o.B.lt);clear C5r;go_simp;generalize hgb:w5r.heap.size=gb at *;generalize w5r.alloc (.cells #[slV none 0 0,slV none 0 0] 31)=P6 at *;refine hK.o _ _ yJ.o.B (fun hHeld=>?_);clear hK K hgb;refine rdy1 6 (fun K hK=>?_);go_simp;go_at_call 22;obtain ⟨ds,ms,ho1,ho2,ho3,ho4⟩:=yJ.o.own;refine (iK P6 base g (bb+1) yJ.o.src (by have:=HB.o;have:=HBB.o;omega) w.heap.size A n c ds ho1 hgw yJ.o.only.size ho3.1).mono ?_;clear ho1 ho2 ho3 ho4 ds ms;rintro e IU ⟨d2,i2,rfl,hs,hgr⟩;have lh:=Hd (yJ.o.step hgr hs);have BZ:=Hd (Mg.o.src hgr (by have:=HGT.o;omega));clear Mg;clear hs hgr yJ;go_simp;refine hK.o _ _ lh.o.B (fun hHeld=>?_);clear hK K;refine rdy1 7 (fun K hK=>?_);go_simp;go_at_call 59;obtain ⟨ds,ms,ho1,ho2,ho3,ho4⟩:=lh.o.own;have hlm:nm=ms.length:=(by obtain ⟨A7,c7,e7,_⟩:=ho2.at;injection e7);refine (wX x d2 i2 ds A n c ho1.mi.2 ms Am nm cm hlm (by omega) IU ho1.mi.1 (bB ho2)).mono ?_;rintro e iQ hpp;obtain ⟨A2,n2,c2,Am2,nm2,cm2,ke,rfl,hb,hor⟩:=hpp.uni;have uE:=Hd (show ke≠0∨dD iQ w.heap.size A2 n2 c2 Am2 nm2 cm2 (3 - k') from hor.imp id (fun ⟨ds2,ms2,r1,r2,r3⟩=>dD.low ⟨ds2,ms2,r1,r2,ho3.add r3,by rw [r3.2.2.2.2.2.2,List.length_append];show ms.length+1≤_;omega⟩ lh.o.only.size));clear ho1 ho2 ho3 ho4 hor hpp hlm ds ms;have lL:=Hd (lh.o.below hb);have eU:=Hd (BZ.o.below hb);clear BZ;clear hb lh;go_simp;refine hK.o _ _ lL.o.B (fun hHeld=>?_);clear hK K;refine tk hHeld 8 ?_ ?_ (tk hHeld 9 ?_ ?_ (tk hHeld 10 ?_ ?_ ?_));iterate 3
         rotate_left
         · intro W hSw;go_simp;try (with_reducible rfl)
       have g0:=eU.o.cell 0;have g1:=eU.o.cell 1;have f0:=eU.o.free 0;have f1:=eU.o.free 1;have hgx:iQ.grownBy ((iQ.setCell ⟨gb,0,none⟩ (slV A2 n2 c2)).setCell ⟨gb,1,none⟩ (slV Am2 nm2 cm2)) (some gb):=ag (p:=⟨gb,1,none⟩) (ag (p:=⟨gb,0,none⟩) (World.grownBy.refl iQ (some gb)) (.inl rfl) _) (.inl rfl) _;have CX:=Hd (lL.o.far eU.o (by have:=HGT.o;omega) (by have:=HGT.o;omega) hgx);have TX:=Hd (show Blk ((iQ.setCell ⟨gb,0,none⟩ (slV A2 n2 c2)).setCell ⟨gb,1,none⟩ (slV Am2 nm2 cm2)) gb 31 #[slV A2 n2 c2,slV Am2 nm2 cm2] from (eU.o.put 0 _).put 1 _);have NX:=Hd (uE.o.imp id (fun h=>h.far eU.o hgx));clear hgx;refine rdy1 12 (fun K hK=>?_);go_simp;refine hK.o _ _ CX.o.B (fun hHeld=>?_);clear hK K;clear g0 g1 f0 f1 lL eU uE;refine tk hHeld 13 ?_ ?_ ?_;rotate_left
       · intro W hSw;go_simp;try (with_reducible rfl)
       refine wpAnyH_done (by kernel_rfl) ?_ _;generalize ((iQ.setCell ⟨gb,0,none⟩ (slV A2 n2 c2)).setCell ⟨gb,1,none⟩ (slV Am2 nm2 cm2))=wz at *;by_cases hke:ke=0;case neg=>
         have q3:=(bT hke).1;obtain ⟨wk,wk2⟩:=WK.o;go_wp2_with fail;clear wk wk2;(try dsimp only [Act.put]);go_roundw;case rel=>exact ⟨k',A,n,c,Am,nm,cm,by omega,rfl,Hd ⟨(CX.o.more (b' :=b+1320+10 * (3 - (k' :Int))) (by have:=HBB.o;omega)).src,CX.o.only,CX.o.R,CX.o.B,by obtain ⟨ds,ms,q1,q2,q3,q4⟩:=CX.o.own;exact ⟨ds,ms,q1,q2,q3,by omega⟩,CX.o.hg,CX.o.hs⟩⟩
         case measure=>simp [intOf]
       case pos=>
         have q3:=(dY hke).1;have t0:=TX.o.cell 0;have t1:=TX.o.cell 1;obtain ⟨wk,wk2⟩:=WK.o;have LN:=Hd ((CX.o.more (b' :=b+1320+10 * (3 - (k' :Int))) (by have:=HBB.o;omega)).set (NX.o.resolve_left (fun h=>h hke)));go_wp2_with ((with_reducible refine ae ?_ 31 (.tmp 3) (.tmp 29) ?_ CX.o.B #[slV A2 n2 c2,slV Am2 nm2 cm2] ?_ ?_ ?_ ?_ ?_ ?_);(iterate 4 rfl);(exact jf _ _);rfl;(exact gQ _ _ _ _ _ _));clear wk wk2 t0 t1;(try dsimp only [Act.put]);go_roundw;case rel=>exact ⟨k',A2,n2,c2,Am2,nm2,cm2,by omega,rfl,LN⟩
         case measure=>simp [intOf]
   · have C5a:=Hd (C5.o.below ((Below.refl w5.heap.size w5).alloc (Nat.le_refl _) (.cells #[slV none 0 0,slV none 0 0] 31)));have T5a:=Hd (Blk.new w5 #[slV none 0 0,slV none 0 0] 31);have HGT:=Hd (show w1.heap.size < w5.heap.size from C5.o.B.lt);clear C5;go_simp;generalize hgb:w5.heap.size=gb at *;generalize w5.alloc (.cells #[slV none 0 0,slV none 0 0] 31)=w5a at *;refine hK.o _ _ C5a.o.B (fun hHeld=>?_);clear hK K hgb;refine rdy1 2 (fun K hK=>?_);go_simp;go_at_call 38;refine (aA w5a base g bb 1 2 C5a.o.src (by have:=HB.o;have:=HBB.o;omega) (by omega) (by omega) (by omega)).mono ?_;rintro e P7 ⟨x,rfl,x0,x1,hs,hgr⟩;have yK:=Hd (C5a.o.step hgr hs);have Mh:=Hd (T5a.o.src hgr (by have:=HGT.o;omega));clear T5a;clear hs hgr C5a x0 x1;go_simp;refine hK.o _ _ yK.o.B (fun hHeld=>?_);clear hK K;refine rdy1 6 (fun K hK=>?_);go_simp;go_at_call 22;obtain ⟨ds,ms,ho1,ho2,ho3,ho4⟩:=yK.o.own;refine (iK P7 base g (bb+1) yK.o.src (by have:=HB.o;have:=HBB.o;omega) w.heap.size A n c ds ho1 hgw yK.o.only.size ho3.1).mono ?_;clear ho1 ho2 ho3 ho4 ds ms;rintro e IV ⟨d2,i2,rfl,hs,hgr⟩;have ll:=Hd (yK.o.step hgr hs);have Ca:=Hd (Mh.o.src hgr (by have:=HGT.o;omega));clear Mh;clear hs hgr yK;go_simp;refine hK.o _ _ ll.o.B (fun hHeld=>?_);clear hK K;refine rdy1 7 (fun K hK=>?_);go_simp;go_at_call 59;obtain ⟨ds,ms,ho1,ho2,ho3,ho4⟩:=ll.o.own;have hlm:nm=ms.length:=(by obtain ⟨A7,c7,e7,_⟩:=ho2.at;injection e7);refine (wX x d2 i2 ds A n c ho1.mi.2 ms Am nm cm hlm (by omega) IV ho1.mi.1 (bB ho2)).mono ?_;rintro e iR hpp;obtain ⟨A2,n2,c2,Am2,nm2,cm2,ke,rfl,hb,hor⟩:=hpp.uni;have uF:=Hd (show ke≠0∨dD iR w.heap.size A2 n2 c2 Am2 nm2 cm2 (3 - k') from hor.imp id (fun ⟨ds2,ms2,r1,r2,r3⟩=>dD.low ⟨ds2,ms2,r1,r2,ho3.add r3,by rw [r3.2.2.2.2.2.2,List.length_append];show ms.length+1≤_;omega⟩ ll.o.only.size));clear ho1 ho2 ho3 ho4 hor hpp hlm ds ms;have lM:=Hd (ll.o.below hb);have eX:=Hd (Ca.o.below hb);clear Ca;clear hb ll;go_simp;refine hK.o _ _ lM.o.B (fun hHeld=>?_);clear hK K;refine tk hHeld 8 ?_ ?_ (tk hHeld 9 ?_ ?_ (tk hHeld 10 ?_ ?_ ?_));iterate 3
       rotate_left
       · intro W hSw;go_simp;try (with_reducible rfl)
     have g0:=eX.o.cell 0;have g1:=eX.o.cell 1;have f0:=eX.o.free 0;have f1:=eX.o.free 1;have hgx:iR.grownBy ((iR.setCell ⟨gb,0,none⟩ (slV A2 n2 c2)).setCell ⟨gb,1,none⟩ (slV Am2 nm2 cm2)) (some gb):=ag (p:=⟨gb,1,none⟩) (ag (p:=⟨gb,0,none⟩) (World.grownBy.refl iR (some gb)) (.inl rfl) _) (.inl rfl) _;have CX:=Hd (lM.o.far eX.o (by have:=HGT.o;omega) (by have:=HGT.o;omega) hgx);have TX:=Hd (show Blk ((iR.setCell ⟨gb,0,none⟩ (slV A2 n2 c2)).setCell ⟨gb,1,none⟩ (slV Am2 nm2 cm2)) gb 31 #[slV A2 n2 c2,slV Am2 nm2 cm2] from (eX.o.put 0 _).put 1 _);have NX:=Hd (uF.o.imp id (fun h=>h.far eX.o hgx));clear hgx;refine rdy1 12 (fun K hK=>?_);go_simp;refine hK.o _ _ CX.o.B (fun hHeld=>?_);clear hK K;clear g0 g1 f0 f1 lM eX uF;refine tk hHeld 13 ?_ ?_ ?_;rotate_left
     · intro W hSw;go_simp;try (with_reducible rfl)
     refine wpAnyH_done (by kernel_rfl) ?_ _;generalize ((iR.setCell ⟨gb,0,none⟩ (slV A2 n2 c2)).setCell ⟨gb,1,none⟩ (slV Am2 nm2 cm2))=wz at *;by_cases hke:ke=0;case neg=>
       have q3:=(bT hke).1;obtain ⟨wk,wk2⟩:=WK.o;go_wp2_with fail;clear wk wk2;(try dsimp only [Act.put]);go_roundw;case rel=>exact ⟨k',A,n,c,Am,nm,cm,by omega,rfl,Hd ⟨(CX.o.more (b' :=b+1320+10 * (3 - (k' :Int))) (by have:=HBB.o;omega)).src,CX.o.only,CX.o.R,CX.o.B,by obtain ⟨ds,ms,q1,q2,q3,q4⟩:=CX.o.own;exact ⟨ds,ms,q1,q2,q3,by omega⟩,CX.o.hg,CX.o.hs⟩⟩
       case measure=>simp [intOf]
     case pos=>
       have q3:=(dY hke).1;have t0:=TX.o.cell 0;have t1:=TX.o.cell 1;obtain ⟨wk,wk2⟩:=WK.o;have LN:=Hd ((CX.o.more (b' :=b+1320+10 * (3 - (k' :Int))) (by have:=HBB.o;omega)).set (NX.o.resolve_left (fun h=>h hke)));go_wp2_with ((with_reducible refine ae ?_ 31 (.tmp 3) (.tmp 29) ?_ CX.o.B #[slV A2 n2 c2,slV Am2 nm2 cm2] ?_ ?_ ?_ ?_ ?_ ?_);(iterate 4 rfl);(exact jf _ _);rfl;(exact gQ _ _ _ _ _ _));clear wk wk2 t0 t1;(try dsimp only [Act.put]);go_roundw;case rel=>exact ⟨k',A2,n2,c2,Am2,nm2,cm2,by omega,rfl,LN⟩
       case measure=>simp [intOf]
structure Wa where
 kd:Int
 dd:Int
 di:Int
 nm:ByteArray
 fd:Int
 fi:Int
abbrev waC (x:Wa):Array Value:=#[.int .i64 x.kd, .int .i64 x.dd, .int .i64 x.di, .string x.nm, .int .i64 x.fd, .int .i64 x.fi]
abbrev zWa:Array Value:=#[.int .i64 0, .int .i64 0, .int .i64 0, .string ⟨#[]⟩, .int .i64 0, .int .i64 0]
theorem nD (x:Wa):(Tryz.prog.info? 92).map (·.size)=some (waC x).size:=by show _=some 6;kernel_rfl
theorem jG (x:Wa):(waC x).all (·.oneCell')=true:=by simp [Value.oneCell']
theorem gV {fn:Func} {i j:Nat} (h:fn.results=#[.cell i 92, .tmp j]) (tmps:Array Value) (w:World) (g:Nat) (x:Wa) (hp:tmps.getD i undef= .pointer (some ⟨g,0,none⟩)) (hg:Blk w g 92 (waC x)):
  (results fn tmps).run Tryz.prog w= .ok (.tuple #[.agg (waC x),tmps.getD j undef]) w:=by
 have hp' :tmps[i]?.getD undef= .pointer (some ⟨g,0,none⟩):=by simpa using hp
 simp [results,h,hp',asAddr,run_loadVar_row w g 92 92 (waC x) (0,0) _ hg Tryz.underlying92 rfl (nD x)]
def PlP (w:World) (e:Ending) (w' :World):Prop:=∃ (x:Wa) (k:Int),e= .returned (.tuple #[.agg (waC x), .int .i64 k])∧Below w.heap.size w w'
structure PlF (w wr:World) (A:Option Addr) (n c:Nat) (ds:List Dm) (Am:Option Addr) (nm cm:Nat) (ms:List Mt):Prop where
 low:Below w.heap.size w wr
 src:bR wr w.heap.size A ds
 mts:AtE EMt wr w.heap.size Am ms
 V:Blk wr w.heap.size 31 #[slV A n c,slV Am nm cm]
 R:Blk wr (w.heap.size+1) 92 zWa
section
variable {w wr w' :World} {A Am:Option Addr} {n c nm cm:Nat} {ds:List Dm} {ms:List Mt}
theorem PlF.grow (h:PlF w wr A n c ds Am nm cm ms) (hb:Below wr.heap.size wr w'):PlF w w' A n c ds Am nm cm ms:=
 ⟨h.low.trans (hb.mono h.low.size),h.src.keep hb h.low.size,h.mts.keep hb h.low.size,h.V.below hb,h.R.below hb⟩
theorem PlF.alloc (h:PlF w wr A n c ds Am nm cm ms) (o:Obj):PlF w (wr.alloc o) A n c ds Am nm cm ms:=h.grow ((Below.refl _ _).alloc (Nat.le_refl _) _)
theorem PlF.files (h:PlF w wr A n c ds Am nm cm ms):bR wr wr.heap.size A ds:=h.src.more h.low.size
theorem PlF.bN (h:PlF w wr A n c ds Am nm cm ms):AtE EMt wr wr.heap.size Am ms:=h.mts.more h.low.size
theorem PlF.start (w:World) (hf:bR w w.heap.size A ds) (hm:AtE EMt w w.heap.size Am ms):PlF w ((w.alloc (.cells #[slV A n c,slV Am nm cm] 31)).alloc (.cells zWa 92)) A n c ds Am nm cm ms:=by
 have B0:Below w.heap.size w ((w.alloc (.cells #[slV A n c,slV Am nm cm] 31)).alloc (.cells zWa 92)):=((Below.refl w.heap.size w).alloc (Nat.le_refl _) _).alloc (by simp) _;have h2:=Blk.new (w.alloc (.cells #[slV A n c,slV Am nm cm] 31)) zWa 92;simp only [World.size_alloc] at h2;exact ⟨B0,hf.keep B0 (Nat.le_refl _),hm.keep B0 (Nat.le_refl _),(Blk.new w _ _).alloc _,h2⟩
theorem PlF.end (h:PlF w wr A n c ds Am nm cm ms) (x:Wa) (k:Int):PlP w (.returned (.tuple #[.agg (waC x), .int .i64 k])) (wr.setRow (w.heap.size+1) (waC x)):=⟨x,k,rfl,ak h.low (by omega) _⟩
end
def Cb:Prop:=∀ (d i:Int) (p:ByteArray),p.size≤100000→∀ (fw:Bool) (ds:List Dm) (A:Option Addr) (n c:Nat),n=ds.length→∀ (ms:List Mt) (Am:Option Addr) (nm cm:Nat),nm=ms.length→nm≤1000→SOk (ds.map Dm.dv) ms→∀ (w:World),bR w w.heap.size A ds→AtE EMt w w.heap.size Am ms→
 Calls Tryz.prog 135 #[.agg #[slV A n c,slV Am nm cm],flV d i, .string p, .bool fw] w (FoP w)
attribute [local irreducible] dL
theorem Mi (nE:Cb) (kd:Int) (p:ByteArray) (hp:p.size≤100000) (ds:List Dm) (A:Option Addr) (n c:Nat) (hn:n=ds.length) (ms:List Mt) (Am:Option Addr) (nm cm:Nat) (hnm:nm=ms.length) (hl:nm≤1000) (hok:SOk (ds.map Dm.dv) ms) (w:World) (hf:bR w w.heap.size A ds) (hm:AtE EMt w w.heap.size Am ms):
  Calls Tryz.prog 151 #[.agg #[slV A n c,slV Am nm cm], .int .i64 kd, .string p] w (PlP w):=by
 have HF:=Hd nE;have HN:=Hd hn;have HNM:=Hd hnm;have HL:=Hd hl;have HOK:=Hd hok;have HP:=Hd hp;have S0:=Hd (PlF.start (n:=n) (c:=c) (nm:=nm) (cm:=cm) w hf hm);clear hf hm hn hnm hl hok hp nE;go_in;go_upto_region 1 with fail;generalize (w.alloc (.cells #[slV A n c,slV Am nm cm] 31)).alloc (.cells zWa 92)=w0 at *;go_cut [22] (fun v wx=>(∃ b:Bool,v= .bool b)∧PlF w wx A n c ds Am nm cm ms);case first=>
  by_cases h1:kd=1;case pos=>
   have q1:=(dY h1).1;have q2:=(dY h1).2;clear h1;go_wp2_with fail;refine (YtollifnnpihfdaaGreatDoor.u6 p w0 HP.o).mono ?_;rintro e w1 ⟨rfl,hb⟩;have S1:=S0.o.grow hb;clear hb;go_wp2_with fail;go_meet;exact ⟨⟨!dL p,rfl⟩,S1⟩
  case neg=>
   have q1:=(bT h1).1;have q2:=(bT h1).2;by_cases h2:kd=2;case pos=>
    have q3:=(dY h2).1;have q4:=(dY h2).2;clear h2;go_wp2_with fail;refine (YtollifnnpihfdaaGreatDoor.u6 p w0 HP.o).mono ?_;rintro e w1 ⟨rfl,hb⟩;have S1:=S0.o.grow hb;clear hb;go_wp2_with fail;go_meet;exact ⟨⟨!dL p,rfl⟩,S1⟩
   case neg=>
    have q3:=(bT h2).1;have q4:=(bT h2).2;go_wp2_with fail;go_meet;exact ⟨⟨_,rfl⟩,S0.o⟩
 case rest=>
 obtain ⟨⟨b,rfl⟩,hS⟩:=hcut;have S1:=Hd hS;clear hS S0;cases b with
 | true=>
  go_wp2_with ((with_reducible refine ae ?_ 92 (.tmp 6) (.tmp 23) ?_ S1.o.R (waC ⟨0,0,0,⟨#[]⟩,0,0⟩) ?_ ?_ ?_ ?_ ?_ ?_);(iterate 4 rfl);(exact nD _);rfl;(exact jG _));refine bodyPost_ret (gV (fn:=Tryz.f151) rfl _ _ (w.heap.size+1) ⟨0,0,0,⟨#[]⟩,0,0⟩ rfl (Blk.row S1.o.R _)) rfl ?_;exact S1.o.end ⟨0,0,0,⟨#[]⟩,0,0⟩ 22
 | false=>
  have v0:=S1.o.V.cell 0;have v1:=S1.o.V.cell 1;go_wp2_with fail;clear v0 v1;refine (HF.o 0 0 p HP.o _ ds A n c HN.o ms Am nm cm HNM.o HL.o HOK.o _ S1.o.files S1.o.bN).mono ?_;rintro e w2 ⟨f,k,rfl,hfn,hfp,hb⟩;obtain ⟨dd,di,nmf,fd,fi,ex,sl,pa⟩:=f;have S2:=Hd ((S1.o.grow hb).alloc (.cells (foC ⟨dd,di,nmf,fd,fi,ex,sl,pa⟩) 223));have F2:=Hd (Blk.new w2 (foC ⟨dd,di,nmf,fd,fi,ex,sl,pa⟩) 223);clear hb hfn hfp S1;go_upto_region 4 with fail;generalize w2.alloc (.cells (foC ⟨dd,di,nmf,fd,fi,ex,sl,pa⟩) 223)=w3 at *;by_cases hk:k=0;case neg=>
   have q5:=(bT hk).2;go_wp2_with ((with_reducible refine ae ?_ 92 (.tmp 6) (.tmp 35) ?_ S2.o.R (waC ⟨0,0,0,⟨#[]⟩,0,0⟩) ?_ ?_ ?_ ?_ ?_ ?_);(iterate 4 rfl);(exact nD _);rfl;(exact jG _));refine bodyPost_ret (gV (fn:=Tryz.f151) rfl _ _ (w.heap.size+1) ⟨0,0,0,⟨#[]⟩,0,0⟩ rfl (Blk.row S2.o.R _)) rfl ?_;exact S2.o.end ⟨0,0,0,⟨#[]⟩,0,0⟩ k
  case pos=>
   have q5:=(dY hk).2;clear hk;have f1:=F2.o.cell 1;have f2:=F2.o.cell 2;have f3:=F2.o.cell 3;have f4:=F2.o.cell 4;have f5:=F2.o.cell 5;have f0:=F2.o.cell 0;by_cases h2:kd=2;case pos=>
    have q6:=(dY h2).1;clear h2;cases ex with
    | false=>
     go_wp2_with ((with_reducible refine ae ?_ 92 (.tmp 6) (.tmp 42) ?_ S2.o.R (waC ⟨0,0,0,⟨#[]⟩,0,0⟩) ?_ ?_ ?_ ?_ ?_ ?_);(iterate 4 rfl);(exact nD _);rfl;(exact jG _));refine bodyPost_ret (gV (fn:=Tryz.f151) rfl _ _ (w.heap.size+1) ⟨0,0,0,⟨#[]⟩,0,0⟩ rfl (Blk.row S2.o.R _)) rfl ?_;exact S2.o.end ⟨0,0,0,⟨#[]⟩,0,0⟩ 2
    | true=>
     have v0:=S2.o.V.cell 0;have v1:=S2.o.V.cell 1;go_wp2_with fail;clear v0 v1;refine (lU fd fi ds A n c HN.o w3 S2.o.files).mono ?_;rintro e w4 ⟨rfl,hb⟩;have S4:=Hd (S2.o.grow hb);have F4:=Hd (F2.o.below hb);clear hb f0 f1 f2 f3 f4 f5 S2 F2;cases hd:dz (ds.map Dm.dv) fd fi with
     | false=>
      clear hd;go_wp2_with ((with_reducible refine ae ?_ 92 (.tmp 6) (.tmp 49) ?_ S4.o.R (waC ⟨0,0,0,⟨#[]⟩,0,0⟩) ?_ ?_ ?_ ?_ ?_ ?_);(iterate 4 rfl);(exact nD _);rfl;(exact jG _));refine bodyPost_ret (gV (fn:=Tryz.f151) rfl _ _ (w.heap.size+1) ⟨0,0,0,⟨#[]⟩,0,0⟩ rfl (Blk.row S4.o.R _)) rfl ?_;exact S4.o.end ⟨0,0,0,⟨#[]⟩,0,0⟩ 20
     | true=>
      clear hd;have f3:=F4.o.cell 3;have f4:=F4.o.cell 4;go_wp2_with ((with_reducible refine ae ?_ 92 (.tmp 6) (.tmp 53) ?_ S4.o.R (waC ⟨kd,0,0,⟨#[]⟩,fd,fi⟩) ?_ ?_ ?_ ?_ ?_ ?_);(iterate 4 rfl);(exact nD _);rfl;(exact jG _));refine bodyPost_ret (gV (fn:=Tryz.f151) rfl _ _ (w.heap.size+1) ⟨kd,0,0,⟨#[]⟩,fd,fi⟩ rfl (Blk.row S4.o.R _)) rfl ?_;exact S4.o.end ⟨kd,0,0,⟨#[]⟩,fd,fi⟩ 0
   case neg=>
    have q6:=(bT h2).1;cases hne:nmf.toList.isEmpty with
    | true=>
     go_wp2_with ((with_reducible refine ae ?_ 92 (.tmp 6) (.tmp 57) ?_ S2.o.R (waC ⟨0,0,0,⟨#[]⟩,0,0⟩) ?_ ?_ ?_ ?_ ?_ ?_);(iterate 4 rfl);(exact nD _);rfl;(exact jG _));refine bodyPost_ret (gV (fn:=Tryz.f151) rfl _ _ (w.heap.size+1) ⟨0,0,0,⟨#[]⟩,0,0⟩ rfl (Blk.row S2.o.R _)) rfl ?_;exact S2.o.end ⟨0,0,0,⟨#[]⟩,0,0⟩ 22
    | false=>
     have v0:=S2.o.V.cell 0;have v1:=S2.o.V.cell 1;go_wp2_with fail;clear v0 v1;refine (lH dd di nmf ds A n c HN.o w3 S2.o.files).mono ?_;rintro e w4 ⟨rfl,hb⟩;generalize gJ (ds.map Dm.dv) dd di nmf=rr;obtain ⟨ke,r1,r2⟩:=rr;have S4:=Hd ((S2.o.grow hb).alloc (.cells #[.int .i64 r1, .int .i64 r2] 44));have F4:=Hd ((F2.o.below hb).alloc (.cells #[.int .i64 r1, .int .i64 r2] 44));have G4:=Hd (Blk.new w4 #[.int .i64 r1, .int .i64 r2] 44);clear hb f0 f1 f2 f3 f4 f5 S2 F2;go_upto_region 15 with fail;generalize w4.alloc (.cells #[.int .i64 r1, .int .i64 r2] 44)=w5 at *;have f0:=F4.o.cell 0;have f1:=F4.o.cell 1;have f2:=F4.o.cell 2;have g0:=G4.o.cell 0;have g1:=G4.o.cell 1;go_wp2_with ((with_reducible refine ae ?_ 92 (.tmp 6) (.tmp 74) ?_ S4.o.R (waC ⟨kd,dd,di,nmf,r1,r2⟩) ?_ ?_ ?_ ?_ ?_ ?_);(iterate 4 rfl);(exact nD _);rfl;(exact jG _));refine bodyPost_ret (gV (fn:=Tryz.f151) rfl _ _ (w.heap.size+1) ⟨kd,dd,di,nmf,r1,r2⟩ rfl (Blk.row S4.o.R _)) rfl ?_;exact S4.o.end ⟨kd,dd,di,nmf,r1,r2⟩ 0
end Go.Proofs.YtollifnnpihfdaaGreatDoor
namespace Go.Proofs.YtollifnnpihfdaaGreatDoor
open Go.RowKit
theorem Tryz.Mj:(Tryz.prog.info? 92).map (fun i=>(i.zero,i.size,i.bytes))=some (some (.agg zWa),6,56):=by kernel_rfl
def EWa:El Wa where
 C x:= [.int .i64 x.kd, .int .i64 x.dd, .int .i64 x.di, .string x.nm, .int .i64 x.fd, .int .i64 x.fi]
 e:=92
 sl:=39
 sz:=6
 bs:=56
 len _:=rfl
 one x u hu:=by simp at hu;rcases hu with rfl | rfl | rfl | rfl | rfl | rfl <;> rfl
 pos:=by omega
 small:=by omega
 hu:=Tryz.underlying39
 info:=by
  obtain ⟨i0,h1,h2,h3,h4⟩:=info_parts Tryz.Mj;exact ⟨i0,_,h1,h2,h3,h4,rfl⟩
structure WaF (w wr:World) (r:Rul) (v:Value) (A:Option Addr) (n c:Nat) (ds:List Dm) (Am:Option Addr) (nm cm:Nat) (ms:List Mt):Prop where
 low:Below w.heap.size w wr
 src:bR wr w.heap.size A ds
 mts:AtE EMt wr w.heap.size Am ms
 X:dF wr w.heap.size r v
 V:Blk wr (w.heap.size+1) 31 #[slV A n c,slV Am nm cm]
 R:Blk wr (w.heap.size+1+1) 92 zWa
section
variable {w wr w' :World} {r:Rul} {v:Value} {A Am:Option Addr} {n c nm cm:Nat} {ds:List Dm} {ms:List Mt}
theorem WaF.grow (h:WaF w wr r v A n c ds Am nm cm ms) (hb:Below wr.heap.size wr w'):WaF w w' r v A n c ds Am nm cm ms:=
 ⟨h.low.trans (hb.mono h.low.size),h.src.keep hb h.low.size,h.mts.keep hb h.low.size,Blk.below h.X hb,h.V.below hb,h.R.below hb⟩
theorem WaF.alloc (h:WaF w wr r v A n c ds Am nm cm ms) (o:Obj):WaF w (wr.alloc o) r v A n c ds Am nm cm ms:=h.grow ((Below.refl _ _).alloc (Nat.le_refl _) _)
theorem WaF.files (h:WaF w wr r v A n c ds Am nm cm ms):bR wr wr.heap.size A ds:=h.src.more h.low.size
theorem WaF.bN (h:WaF w wr r v A n c ds Am nm cm ms):AtE EMt wr wr.heap.size Am ms:=h.mts.more h.low.size
theorem WaF.start (w:World) (hf:bR w w.heap.size A ds) (hm:AtE EMt w w.heap.size Am ms):WaF w (((w.alloc (.cells (bK r v) 90)).alloc (.cells #[slV A n c,slV Am nm cm] 31)).alloc (.cells zWa 92)) r v A n c ds Am nm cm ms:=by
 have s1:(w.alloc (.cells (bK r v) 90)).heap.size=w.heap.size+1:=by simp
 have s2:((w.alloc (.cells (bK r v) 90)).alloc (.cells #[slV A n c,slV Am nm cm] 31)).heap.size=w.heap.size+1+1:=by simp
 have B0:Below w.heap.size w (((w.alloc (.cells (bK r v) 90)).alloc (.cells #[slV A n c,slV Am nm cm] 31)).alloc (.cells zWa 92)):=(((Below.refl w.heap.size w).alloc (Nat.le_refl _) _).alloc (by rw [s1];omega) _).alloc (by rw [s2];omega) _;have h1:=(Blk.new (w.alloc (.cells (bK r v) 90)) #[slV A n c,slV Am nm cm] 31).alloc (.cells zWa 92);rw [s1] at h1;have h2:=Blk.new ((w.alloc (.cells (bK r v) 90)).alloc (.cells #[slV A n c,slV Am nm cm] 31)) zWa 92;rw [s2] at h2;exact ⟨B0,hf.keep B0 (Nat.le_refl _),hm.keep B0 (Nat.le_refl _),((Blk.new w _ _).alloc _).alloc _,h1,h2⟩
theorem WaF.end (h:WaF w wr r v A n c ds Am nm cm ms) (x:Wa) (k:Int):PlP w (.returned (.tuple #[.agg (waC x), .int .i64 k])) (wr.setRow (w.heap.size+1+1) (waC x)):=⟨x,k,rfl,ak h.low (by omega) _⟩
end
theorem IW (nE:Cb) (r:Rul) (v:Value) (hp:r.pa.size≤100000) (ds:List Dm) (A:Option Addr) (n c:Nat) (hn:n=ds.length) (ms:List Mt) (Am:Option Addr) (nm cm:Nat) (hnm:nm=ms.length) (hl:nm≤1000) (hok:SOk (ds.map Dm.dv) ms) (w:World) (hf:bR w w.heap.size A ds) (hm:AtE EMt w w.heap.size Am ms):
  Calls Tryz.prog 90 #[oF r v, .agg #[slV A n c,slV Am nm cm]] w (PlP w):=by
 have HF:=Hd nE;have HN:=Hd hn;have HNM:=Hd hnm;have HL:=Hd hl;have HOK:=Hd hok;have HP:=Hd hp;have S0:=Hd (WaF.start (r:=r) (v:=v) (n:=n) (c:=c) (nm:=nm) (cm:=cm) w hf hm);clear hf hm hn hnm hl hok hp nE;go_in;go_upto_region 1 with fail;generalize ((w.alloc (.cells (bK r v) 90)).alloc (.cells #[slV A n c,slV Am nm cm] 31)).alloc (.cells zWa 92)=w0 at *;have c4:=S0.o.X.cell 4;have c5:=S0.o.X.cell 5;by_cases hz:r.wa=0;case pos=>
  have q1:=(dY hz).1;clear hz;go_wp2_with ((with_reducible refine ae ?_ 92 (.tmp 4) (.tmp 11) ?_ S0.o.R (waC ⟨0,0,0,⟨#[]⟩,0,0⟩) ?_ ?_ ?_ ?_ ?_ ?_);(iterate 4 rfl);(exact nD _);rfl;(exact jG _));refine bodyPost_ret (gV (fn:=Tryz.f90) rfl _ _ (w.heap.size+1+1) ⟨0,0,0,⟨#[]⟩,0,0⟩ rfl (Blk.row S0.o.R _)) rfl ?_;exact S0.o.end ⟨0,0,0,⟨#[]⟩,0,0⟩ 0
 case neg=>
  have q1:=(bT hz).1;have v0:=S0.o.V.cell 0;have v1:=S0.o.V.cell 1;go_wp2_with fail;clear v0 v1 c4 c5;refine (Mi HF.o r.wa r.pa HP.o ds A n c HN.o ms Am nm cm HNM.o HL.o HOK.o w0 S0.o.files S0.o.bN).mono ?_;rintro e w1 ⟨x,k,rfl,hb⟩;obtain ⟨x1,x2,x3,x4,x5,x6⟩:=x;have S2:=Hd ((S0.o.grow hb).alloc (.cells (waC ⟨x1,x2,x3,x4,x5,x6⟩) 92));have F2:=Hd (Blk.new w1 (waC ⟨x1,x2,x3,x4,x5,x6⟩) 92);clear hb S0;go_upto_region 4 with fail;generalize w1.alloc (.cells (waC ⟨x1,x2,x3,x4,x5,x6⟩) 92)=w2 at *;by_cases hk:k=0;case neg=>
   have q5:=(bT hk).2;go_wp2_with ((with_reducible refine ae ?_ 92 (.tmp 4) (.tmp 23) ?_ S2.o.R (waC ⟨0,0,0,⟨#[]⟩,0,0⟩) ?_ ?_ ?_ ?_ ?_ ?_);(iterate 4 rfl);(exact nD _);rfl;(exact jG _));refine bodyPost_ret (gV (fn:=Tryz.f90) rfl _ _ (w.heap.size+1+1) ⟨0,0,0,⟨#[]⟩,0,0⟩ rfl (Blk.row S2.o.R _)) rfl ?_;exact S2.o.end ⟨0,0,0,⟨#[]⟩,0,0⟩ 180
  case pos=>
   have q5:=(dY hk).2;clear hk;have f0:=F2.o.cell 0;have f1:=F2.o.cell 1;have f2:=F2.o.cell 2;have f3:=F2.o.cell 3;have f4:=F2.o.cell 4;have f5:=F2.o.cell 5;go_wp2_with ((with_reducible refine ae ?_ 92 (.tmp 4) (.tmp 24) ?_ S2.o.R (waC ⟨x1,x2,x3,x4,x5,x6⟩) ?_ ?_ ?_ ?_ ?_ ?_);(iterate 4 rfl);(exact nD _);rfl;(exact jG _));refine bodyPost_ret (gV (fn:=Tryz.f90) rfl _ _ (w.heap.size+1+1) ⟨x1,x2,x3,x4,x5,x6⟩ rfl (Blk.row S2.o.R _)) rfl ?_;exact S2.o.end ⟨x1,x2,x3,x4,x5,x6⟩ 0
theorem Fe (a b a3 b3:Int) (x:ByteArray):Tryz.prog.built 223 [(0, .agg #[.int .i64 a, .int .i64 b]),(1, .string x),(2, .agg #[.int .i64 a3, .int .i64 b3]),(3, .bool true)]=some (foC ⟨a,b,x,a3,b3,true,false,⟨#[]⟩⟩):=by
 kernel_rfl
end Go.Proofs.YtollifnnpihfdaaGreatDoor
