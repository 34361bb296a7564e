import Derived.Test.YtollifnnpihfdaaGreatDoorG44
set_option maxRecDepth 100000
set_option maxHeartbeats 64000000
set_option linter.all false
namespace Go.Proofs.YtollifnnpihfdaaGreatDoor
open Go.RowKit
theorem bM {α:Type} {E:El α} {w:World} {base:Nat} {A:Option Addr} {n c:Nat} {L:List α} (h:ax E w base (.slice A n c) L):n=L.length∧n≤c:=by
 rcases h.2 with ⟨e,e0⟩ | ⟨g1,c1,NK,e,_,_,h2,_⟩
 · injection e with _ e2 e3;subst e2 e3;exact ⟨e0.symm,Nat.le_refl _⟩
 · injection e with _ e2 e3;subst e2 e3;exact ⟨rfl,h2⟩
theorem eY.row {w:World} {base g m:Nat} {u v:Value} {t:TypeId} {cs:Array Value} (h:eY w base u v m) (hg:Blk w g t cs) (h1:(90:Nat)≠t) (h2:(85:Nat)≠t) (h3:(92:Nat)≠t) {w' :World} (hw:w.grownBy w' (some g)):eY w' base u v m:=by
 obtain ⟨⟨xs,k1,k2⟩,⟨ws,k3,k4⟩⟩:=h;exact ⟨⟨xs,k1.far hw (fun k e=>by injection e with e;subst e;exact ⟨ay k1.own hg h1,fun x hx=>ay (sP (k1.ts x hx).1) hg h2⟩),k2⟩,⟨ws,k3.far hw (fun k e r=>by injection r with r;subst r;exact ay k3 hg h3 e),k4⟩⟩
theorem eY.forms {w:World} {base m:Nat} {u v:Value} (h:eY w base u v m):∃ (A1:Option Addr) (n1 c1:Nat) (A2:Option Addr) (n2 c2:Nat),u= .slice A1 n1 c1∧v= .slice A2 n2 c2:=by
 obtain ⟨⟨xs,k1,k2⟩,⟨ws,k3,k4⟩⟩:=h;obtain ⟨A1,c1,e1,_⟩:=k1.at;obtain ⟨A2,c2,e2,_⟩:=k3.at;exact ⟨A1,_,c1,A2,_,c2,e1,e2⟩
theorem IX {fn:Func} {i:Nat} (h:fn.results=#[.cell i 41]) (tmps:Array Value) (w:World) (g:Nat) (u v:Value) (hp:tmps.getD i undef= .pointer (some ⟨g,0,none⟩)) (hg:Blk w g 41 (poA u v)):
  (results fn tmps).run Tryz.prog w= .ok (.agg (poA u v)) w:=
 results_cell_row h tmps w g _ (poA u v) (0,0) _ hp hg Tryz.underlying41 rfl (lX u v)
theorem fH.src {w w' :World} {lo g:Nat} {v:Value} {ts:List Tst} (h:fH w lo v ts) (hg:w.grownBy w' (some g)) (hl:g < lo):fH w' lo v ts:=h.only hg hl
structure PyS (w wr:World) (base g:Nat) (b:Int) (lo:Nat) (A:Option Addr) (n c:Nat) (Am:Option Addr) (nm cm j:Nat) (u v:Value) (m:Nat):Prop where
 src:aB wr base g b
 only:w.grownBy wr (some g)
 V:Blk wr w.heap.size 31 #[slV A n c,slV Am nm cm]
 R:Blk wr (w.heap.size+1) 41 (poA (.slice none 0 0) (.slice none 0 0))
 P:Blk wr (w.heap.size+1+1) 41 (poA u v)
 own:eY wr w.heap.size u v m
 sp:dD wr lo A n c Am nm cm j
 hg:g < lo
 hl:lo≤w.heap.size
section
variable {w wr w' :World} {base g lo n c nm cm j m:Nat} {b b' :Int} {A Am:Option Addr} {u v:Value}
theorem PyS.step (h:PyS w wr base g b lo A n c Am nm cm j u v m) (hg:wr.grownBy w' (some g)) (hs:aB w' base g b'):PyS w w' base g b' lo A n c Am nm cm j u v m:=by
 have h1:=h.hg;have h2:=h.hl;exact ⟨hs,dJ h.only hg,h.V.src hg (by omega),h.R.src hg (by omega),h.P.src hg (by omega),h.own.only hg (by omega),h.sp.src h1 hg,h1,h2⟩
theorem PyS.below (h:PyS w wr base g b lo A n c Am nm cm j u v m) (hb:Below wr.heap.size wr w'):PyS w w' base g b lo A n c Am nm cm j u v m:=
 ⟨h.src.below hb,bE h.only hb,h.V.below hb,h.R.below hb,h.P.below hb,h.own.below hb,h.sp.below hb,h.hg,h.hl⟩
theorem PyS.more (h:PyS w wr base g b lo A n c Am nm cm j u v m) (hb:b≤b'):PyS w wr base g b' lo A n c Am nm cm j u v m:=⟨h.src.more hb,h.only,h.V,h.R,h.P,h.own,h.sp,h.hg,h.hl⟩
theorem PyS.up {m' :Nat} (h:PyS w wr base g b lo A n c Am nm cm j u v m) (hm:m≤m'):PyS w wr base g b lo A n c Am nm cm j u v m' :=⟨h.src,h.only,h.V,h.R,h.P,h.own.more hm,h.sp,h.hg,h.hl⟩
theorem dD.RF {w w' :World} {lo j k:Nat} {A Am:Option Addr} {n c nm cm:Nat} {cs:Array Value} (h:dD w lo A n c Am nm cm j) (hk:Blk w k 41 cs) (hg:w.grownBy w' (some k)):dD w' lo A n c Am nm cm j:=by
 obtain ⟨ds,ms,h1,h2,h3⟩:=h;exact ⟨ds,ms,h1.far hg (fun q e=>by injection e with e;subst e;exact ⟨ay h1.own hk (by decide),fun dd hdd=>ay (h1.nodes dd hdd).1 hk (by decide),fun dd hdd y hy=>ay (h1.cO dd hdd y hy).1 hk (by decide)⟩),h2.far hg (fun q e r=>by injection r with r;subst r;exact ay h2 hk (by decide) e),h3⟩
theorem PyS.far (h:PyS w wr base g b lo A n c Am nm cm j u v m) {k:Nat} {cs:Array Value} (hk:Blk wr k 41 cs) (h1:w.heap.size+1+1 < k) (hg:wr.grownBy w' (some k)):PyS w w' base g b lo A n c Am nm cm j u v m:=by
 have h3:=h.hg;have h4:=h.hl;have hb:=h.src.1;exact ⟨h.src.grown hg (fun r e=>by injection e with e;exact ⟨by omega,by omega⟩),uw h.only hg (fun x e=>by injection e with e;omega),h.V.grown hg (fun e=>by injection e with e;omega),h.R.grown hg (fun e=>by injection e with e;omega),h.P.grown hg (fun e=>by injection e with e;omega),h.own.row hk (by decide) (by decide) (by decide) hg,h.sp.RF hk hg,h3,h4⟩
theorem PyS.set (h:PyS w wr base g b lo A n c Am nm cm j u v m) {u2 v2:Value} {m2:Nat} (h2:eY wr w.heap.size u2 v2 m2):PyS w (wr.setRow (w.heap.size+1+1) (poA u2 v2)) base g b lo A n c Am nm cm j u2 v2 m2:=by
 have h3:=h.hg;have h4:=h.hl;have hb:=h.src.1;have hgx:=aJ wr (w.heap.size+1+1) (poA u2 v2);exact ⟨h.src.grown hgx (fun r e=>by injection e with e;exact ⟨by omega,by omega⟩),eD h.only (by omega) _,h.V.aS _ (by omega),h.R.aS _ (by omega),h.P.row _,h2.row h.P (by decide) (by decide) (by decide) hgx,h.sp.RF h.P hgx,h3,h4⟩
end
def TR (w:World) (base g:Nat) (b:Int) (q:Nat) (e:Ending) (w' :World):Prop:=∃ (u v:Value),e= .returned (.agg (poA u v))∧eY w' w.heap.size u v q∧aB w' base g b∧w.grownBy w' (some g)
theorem yA (nE:Cb) (q:Nat) (hq:q≤100) (w:World) (base g:Nat) (b:Int) (h:aB w base g b) (hb:b≤900000000) (lo:Nat) (A:Option Addr) (n c:Nat) (Am:Option Addr) (nm cm:Nat) (hsp:dD w lo A n c Am nm cm 3) (hgl:g < lo) (hlw:lo≤w.heap.size):
  Calls Tryz.prog 12 #[.pointer (some ⟨g,0,none⟩), .agg #[slV A n c,slV Am nm cm], .int .i64 (q:Int)] w (TR w base g (b+2+1700 * q) q):=by
 have HF:=Hd nE;have HB:=Hd hb;have HQ:=Hd hq;have hgw:g < w.heap.size:=aW h;have hbase:base≤w.heap.size:=by have:=h.1;omega
 have s1:(w.alloc (.cells #[slV A n c,slV Am nm cm] 31)).heap.size=w.heap.size+1:=by simp
 have s2:((w.alloc (.cells #[slV A n c,slV Am nm cm] 31)).alloc (.cells (poA (.slice none 0 0) (.slice none 0 0)) 41)).heap.size=w.heap.size+1+1:=by simp
 have hb0:Below w.heap.size w (((w.alloc (.cells #[slV A n c,slV Am nm cm] 31)).alloc (.cells (poA (.slice none 0 0) (.slice none 0 0)) 41)).alloc (.cells (poA (.slice none 0 0) (.slice none 0 0)) 41)):=(((Below.refl w.heap.size w).alloc (Nat.le_refl _) _).alloc (by rw [s1];omega) _).alloc (by rw [s2];omega) _;have L0:=Hd (show PyS w (((w.alloc (.cells #[slV A n c,slV Am nm cm] 31)).alloc (.cells (poA (.slice none 0 0) (.slice none 0 0)) 41)).alloc (.cells (poA (.slice none 0 0) (.slice none 0 0)) 41)) base g b lo A n c Am nm cm 3 (.slice none 0 0) (.slice none 0 0) 0 from ⟨h.below hb0,bE (World.grownBy.refl w (some g)) hb0,((Blk.new w _ _).alloc _).alloc _,by
  have h1:=(Blk.new (w.alloc (.cells #[slV A n c,slV Am nm cm] 31)) (poA (.slice none 0 0) (.slice none 0 0)) 41).alloc (.cells (poA (.slice none 0 0) (.slice none 0 0)) 41);rw [s1] at h1;exact h1,by
  have h1:=Blk.new ((w.alloc (.cells #[slV A n c,slV Am nm cm] 31)).alloc (.cells (poA (.slice none 0 0) (.slice none 0 0)) 41)) (poA (.slice none 0 0) (.slice none 0 0)) 41;rw [s2] at h1;exact h1,eY.nil _ _ _,hsp.below hb0,hgl,hlw⟩)
 clear h hb hsp s1 s2 hb0 hq nE;go_in;go_upto_region 2 with fail;generalize ((w.alloc (.cells #[slV A n c,slV Am nm cm] 31)).alloc (.cells (poA (.slice none 0 0) (.slice none 0 0)) 41)).alloc (.cells (poA (.slice none 0 0) (.slice none 0 0)) 41)=w0 at *;obtain ⟨q7,q8⟩:=bW (show q≤1000000 by have:=HQ.o;omega) (Nat.le_refl _);go_wp2_with fail;clear q7 q8;refine (bG w0 base g b ((q:Int)+1) L0.o.src (by have:=HB.o;omega) (by omega) (by have:=HQ.o;omega)).mono ?_;rintro e w3 ⟨y,rfl,y0,y1,hs,hgr⟩;obtain ⟨k0,rfl⟩:=Int.eq_ofNat_of_zero_le y0;have L4:=Hd (L0.o.step hgr hs);have HK0:=Hd (show k0≤q by omega);clear hs hgr L0 y0 y1;go_wp2_with fail;go_loopw [8] (fun ix wr=>∃ (k:Nat) (A1:Option Addr) (n1 c1:Nat) (A2:Option Addr) (n2 c2:Nat),k≤q∧ix= .int .i64 k∧Hid (PyS w wr base g (b+2+1700 * ((q - k:Nat):Int)) lo A n c Am nm cm 3 (.slice A1 n1 c1) (.slice A2 n2 c2) (q - k))) (fun ix _=>(intOf ix).toNat);case atStart=>exact ⟨k0,none,0,0,none,0,0,HK0.o,rfl,Hd ((L4.o.more (by omega)).up (Nat.zero_le _))⟩
 case round=>
  clear L4 HK0;obtain ⟨k,A1,n1,c1,A2,n2,c2,hk,rfl,HS⟩:=hrel;by_cases hpos:0 < k;case neg=>
   have q1:¬ (0:Int) < (k:Int):=(by omega);have s0:=HS.o.P.cell 0;have s1:=HS.o.P.cell 1;have hk0:k=0:=(by omega);go_wp2_with ((with_reducible refine ae ?_ 41 (.tmp 6) (.tmp 33) ?_ HS.o.R (poA (.slice A1 n1 c1) (.slice A2 n2 c2)) ?_ ?_ ?_ ?_ ?_ ?_);(iterate 4 rfl);(exact lX _ _);rfl;(exact jH _ _ _ _ _ _));refine bodyPost_ret (IX (fn:=Tryz.f12) rfl _ _ (w.heap.size+1) (.slice A1 n1 c1) (.slice A2 n2 c2) rfl (Blk.row HS.o.R _)) rfl ?_;have hgx:=aJ wr (w.heap.size+1) (poA (.slice A1 n1 c1) (.slice A2 n2 c2));exact ⟨_,_,rfl,(HS.o.own.row HS.o.R (by decide) (by decide) (by decide) hgx).more (by omega),(HS.o.src.more (by subst hk0;simp)).grown hgx (fun r e=>by injection e with e;exact ⟨by omega,by omega⟩),eD HS.o.only (by omega) _⟩
  case pos=>
   obtain ⟨k',rfl⟩:∃ k',k=k' +1:=⟨k - 1,by omega⟩;have q1:(0:Int) < ((k' +1:Nat):Int):=(by omega);have wk:IntKind.i64.wrap (((k' +1:Nat):Int) - 1)=(k' :Int):=(by rw [show (((k' +1:Nat):Int) - 1)=(k' :Int) by omega];exact IntWalk.i64_in _ (by have:=HQ.o;omega));have wk2:wrap64 (((k' +1:Nat):Int) - 1)=(k' :Int):=(by rw [show (((k' +1:Nat):Int) - 1)=(k' :Int) by omega];exact IntWalk.wrap64_in _ (by have:=HQ.o;omega));have wk3:wrap64 (k' :Int)=(k' :Int):=IntWalk.wrap64_in _ (by have:=HQ.o;omega);have wk4:IntKind.i64.wrap (k' :Int)=(k' :Int):=IntWalk.i64_in _ (by have:=HQ.o;omega);have WK:=Hd (And.intro wk (And.intro wk2 (And.intro wk3 wk4)));clear wk wk2 wk3 wk4 hpos;obtain ⟨m,hm⟩:∃ m:Nat,m=q - (k' +1):=⟨_,rfl⟩;rw [← hm] at HS;have HM:=Hd (show q - k' =m+1∧m≤100 by have:=HQ.o;omega);have HKQ:=Hd (show k' ≤q by omega);clear hm hk;obtain ⟨bb,hbb⟩:∃ bb:Int,bb=b+2+1700 * (m:Int):=⟨_,rfl⟩;rw [← hbb] at HS;have HBB:=Hd (show bb≤900200000 by have:=HB.o;have:=HM.o.2;omega);have HBM:=Hd hbb;clear hbb;go_upto_region 5 with fail;have C5:=Hd (HS.o.below (Below.refl wr.heap.size wr).drew);clear HS;refine wp_region_held_drew (S:=(fun W=>Blk W w.heap.size 31 #[slV A n c,slV Am nm cm]∧Blk W (w.heap.size+1+1) 41 (poA (.slice A1 n1 c1) (.slice A2 n2 c2)))) (by kernel_rfl) ⟨C5.o.V,C5.o.P⟩ (fun hHeld=>?_);generalize wr.drew=w5 at *;refine tk hHeld 0 ?_ ?_ (tk hHeld 1 ?_ ?_ (tk hHeld 2 ?_ ?_ (tk hHeld 4 ?_ ?_ ?_)));iterate 4
     rotate_left
     · intro W hSw;have s0:=hSw.1.cell 0;have s1:=hSw.1.cell 1;have s2:=hSw.2.cell 0;have s3:=hSw.2.cell 1;go_simp;try (with_reducible rfl)
   refine wpAnyH_ready (rs:= [3,11]) (by kernel_rfl) (by simp) ?_;refine AllReadyH.cons rfl (fun K hK=>?_) (AllReadyH.cons rfl (fun K hK=>?_) AllReadyH.nil)
   · go_simp;go_at_call 43;refine (wI w5 base g bb C5.o.src (by have:=HBB.o;omega)).mono ?_;rintro e w5r ⟨r,Tr,tn,tc,rfl,hn,h3,hmk,_,hown,hs,hgr⟩;have C5r:=Hd (C5.o.step hgr hs);have E5r:=Hd (hown.low (show w.heap.size≤w5.heap.size+1 from Nat.le_succ_of_le C5.o.only.size));have HTN:=Hd hn;have HGR:=Hd (show GdR r from ⟨hmk,by omega⟩);clear hs hgr C5 hown hn h3 hmk;go_simp;refine hK.o _ _ ⟨C5r.o.V,C5r.o.P⟩ (fun hHeld=>?_);clear hK K;refine wpAnyH_ready (rs:= [5,11]) (by kernel_rfl) (by simp) ?_;refine AllReadyH.cons rfl (fun K hK=>?_) (AllReadyH.cons rfl (fun K hK=>?_) AllReadyH.nil)
     · go_simp;go_at_call 14;refine (bG w5r base g (bb+1600) 4 C5r.o.src (by have:=HBB.o;omega) (by omega) (by omega)).mono ?_;rintro e vR ⟨y,rfl,_,_,hs,hgr⟩;have qV:=Hd (C5r.o.step hgr hs);have NB:=Hd (E5r.o.src hgr (by omega));clear hs hgr C5r E5r;go_simp;refine hK.o _ _ ⟨qV.o.V,qV.o.P⟩ (fun hHeld=>?_);clear hK K;refine tk hHeld 6 ?_ ?_ ?_;rotate_left
       · intro W hSw;go_simp;try (with_reducible rfl)
       refine wpAnyH_ready (rs:= [7,11]) (by kernel_rfl) (by simp) ?_;refine AllReadyH.cons rfl (fun K hK=>?_) (AllReadyH.cons rfl (fun K hK=>?_) AllReadyH.nil)
       · go_simp;go_at_call 42;obtain ⟨ds,ms,ho1,ho2,ho3,ho4⟩:=qV.o.sp;have hlm:nm=ms.length:=(bM ho2).1;have hld:=(bM ho1.own).1;obtain ⟨⟨xs,hx1,hx2⟩,⟨ws,hx3,hx4⟩⟩:=qV.o.own;obtain ⟨A9,c9,e9,hfs⟩:=ho1.at;injection e9 with e9a e9b e9c;subst e9a;refine (qX HF.o m (by have:=HM.o.2;omega) xs A1 n1 c1 (bM hx1.own).1 hx2 (bM hx1.own).2 ws A2 n2 c2 (bM hx3).1 hx4 r Tr tn tc HTN.o HGR.o _ ds A n c hld ms Am nm cm hlm (by omega) ho3 vR hfs (bB ho2) hx1.at' (bB hx3) (gX NB.o)).mono ?_;rintro e iZ ⟨u2,v2,ke,rfl,hpo,hb⟩;have BU:=Hd (hpo.low qV.o.only.size);obtain ⟨A3,n3,c3,A4,n4,c4,rfl,rfl⟩:=hpo.forms;clear ho1 ho2 ho3 ho4 hlm hld hx1 hx2 hx3 hx4 hfs hpo e9b e9c ds ms xs ws;have nU:=Hd (qV.o.below hb);clear hb qV NB;go_simp;refine hK.o _ _ ⟨nU.o.V,nU.o.P⟩ (fun hHeld=>?_);clear hK K;refine tk hHeld 8 ?_ ?_ (tk hHeld 9 ?_ ?_ (tk hHeld 10 ?_ ?_ ?_));iterate 3
           rotate_left
           · intro W hSw;go_simp;try (with_reducible rfl)
         refine rdy1 11 (fun K hK=>?_);have lJ:=Hd (nU.o.below ((Below.refl iZ.heap.size iZ).alloc (Nat.le_refl _) (.cells (poA (.slice none 0 0) (.slice none 0 0)) 41)));have eQ:=Hd (Blk.new iZ (poA (.slice none 0 0) (.slice none 0 0)) 41);have HGT:=Hd (show w.heap.size+1+1 < iZ.heap.size from nU.o.P.lt);have uy:=Hd (BU.o.below ((Below.refl iZ.heap.size iZ).alloc (Nat.le_refl _) (.cells (poA (.slice none 0 0) (.slice none 0 0)) 41)));clear BU;clear nU;go_simp;generalize hgb:iZ.heap.size=gb at *;generalize iZ.alloc (.cells (poA (.slice none 0 0) (.slice none 0 0)) 41)=jh at *;refine hK.o _ _ ⟨lJ.o.V,lJ.o.P⟩ (fun hHeld=>?_);clear hK K hgb;have g0:=eQ.o.cell 0;have g1:=eQ.o.cell 1;have f0:=eQ.o.free 0;have f1:=eQ.o.free 1;have hgx:jh.grownBy ((jh.setCell ⟨gb,0,none⟩ (.slice A3 n3 c3)).setCell ⟨gb,1,none⟩ (.slice A4 n4 c4)) (some gb):=ag (p:=⟨gb,1,none⟩) (ag (p:=⟨gb,0,none⟩) (World.grownBy.refl jh (some gb)) (.inl rfl) _) (.inl rfl) _;have CX:=Hd (lJ.o.far eQ.o (by have:=HGT.o;omega) hgx);have TX:=Hd (show Blk ((jh.setCell ⟨gb,0,none⟩ (.slice A3 n3 c3)).setCell ⟨gb,1,none⟩ (.slice A4 n4 c4)) gb 41 (poA (.slice A3 n3 c3) (.slice A4 n4 c4)) from (eQ.o.put 0 _).put 1 _);have NX:=Hd (uy.o.row eQ.o (by decide) (by decide) (by decide) hgx);clear hgx;refine rdy1 12 (fun K hK=>?_);go_simp;refine hK.o _ _ ⟨CX.o.V,CX.o.P⟩ (fun hHeld=>?_);clear hK K;clear g0 g1 f0 f1 lJ eQ uy;refine tk hHeld 13 ?_ ?_ ?_;rotate_left
         · intro W hSw;go_simp;try (with_reducible rfl)
         refine wpAnyH_done (by kernel_rfl) ?_ _;generalize ((jh.setCell ⟨gb,0,none⟩ (.slice A3 n3 c3)).setCell ⟨gb,1,none⟩ (.slice A4 n4 c4))=wz at *;have CY:=Hd (CX.o.more (b' :=b+2+1700 * ((q - k' :Nat):Int)) (by have:=HBM.o;rw [HM.o.1];omega));by_cases hke:ke=0;case neg=>
           have q3:=(bT hke).1;obtain ⟨wk,wk2,wk3,wk4⟩:=WK.o;go_simp;go_wp2_with fail;clear wk wk2 wk3 wk4;(try dsimp only [Act.put]);go_roundw;case rel=>exact ⟨k',A1,n1,c1,A2,n2,c2,HKQ.o,rfl,Hd (CY.o.up (by have:=HM.o.1;omega))⟩
           case measure=>simp [intOf]
         case pos=>
           have q3:=(dY hke).1;have t0:=TX.o.cell 0;have t1:=TX.o.cell 1;obtain ⟨wk,wk2,wk3,wk4⟩:=WK.o;have LN:=Hd ((CY.o.set NX.o).up (show m+1≤q - k' by have:=HM.o.1;omega));go_simp;go_wp2_with ((with_reducible refine ae ?_ 41 (.tmp 7) (.tmp 32) ?_ CX.o.P (poA (.slice A3 n3 c3) (.slice A4 n4 c4)) ?_ ?_ ?_ ?_ ?_ ?_);(iterate 4 rfl);(exact lX _ _);rfl;(exact jH _ _ _ _ _ _));clear wk wk2 wk3 wk4 t0 t1;(try dsimp only [Act.put]);go_roundw;case rel=>exact ⟨k',A3,n3,c3,A4,n4,c4,HKQ.o,rfl,LN⟩
           case measure=>simp [intOf]
       · have lg:=Hd (qV.o.below ((Below.refl vR.heap.size vR).alloc (Nat.le_refl _) (.cells (poA (.slice none 0 0) (.slice none 0 0)) 41)));have BV:=Hd (Blk.new vR (poA (.slice none 0 0) (.slice none 0 0)) 41);have HGT:=Hd (show w.heap.size+1+1 < vR.heap.size from qV.o.P.lt);have Ml:=Hd (NB.o.alloc (.cells (poA (.slice none 0 0) (.slice none 0 0)) 41));clear NB;clear qV;go_simp;generalize hgb:vR.heap.size=gb at *;generalize vR.alloc (.cells (poA (.slice none 0 0) (.slice none 0 0)) 41)=IQ at *;refine hK.o _ _ ⟨lg.o.V,lg.o.P⟩ (fun hHeld=>?_);clear hK K hgb;refine rdy1 7 (fun K hK=>?_);go_simp;go_at_call 42;obtain ⟨ds,ms,ho1,ho2,ho3,ho4⟩:=lg.o.sp;have hlm:nm=ms.length:=(bM ho2).1;have hld:=(bM ho1.own).1;obtain ⟨⟨xs,hx1,hx2⟩,⟨ws,hx3,hx4⟩⟩:=lg.o.own;obtain ⟨A9,c9,e9,hfs⟩:=ho1.at;injection e9 with e9a e9b e9c;subst e9a;refine (qX HF.o m (by have:=HM.o.2;omega) xs A1 n1 c1 (bM hx1.own).1 hx2 (bM hx1.own).2 ws A2 n2 c2 (bM hx3).1 hx4 r Tr tn tc HTN.o HGR.o _ ds A n c hld ms Am nm cm hlm (by omega) ho3 IQ hfs (bB ho2) hx1.at' (bB hx3) (gX Ml.o)).mono ?_;rintro e iP ⟨u2,v2,ke,rfl,hpo,hb⟩;have uz:=Hd (hpo.low lg.o.only.size);obtain ⟨A3,n3,c3,A4,n4,c4,rfl,rfl⟩:=hpo.forms;clear ho1 ho2 ho3 ho4 hlm hld hx1 hx2 hx3 hx4 hfs hpo e9b e9c ds ms xs ws;have lK:=Hd (lg.o.below hb);have eT:=Hd (BV.o.below hb);clear BV;clear hb lg Ml;go_simp;refine hK.o _ _ ⟨lK.o.V,lK.o.P⟩ (fun hHeld=>?_);clear hK K;refine tk hHeld 8 ?_ ?_ (tk hHeld 9 ?_ ?_ (tk hHeld 10 ?_ ?_ ?_));iterate 3
           rotate_left
           · intro W hSw;go_simp;try (with_reducible rfl)
         have g0:=eT.o.cell 0;have g1:=eT.o.cell 1;have f0:=eT.o.free 0;have f1:=eT.o.free 1;have hgx:iP.grownBy ((iP.setCell ⟨gb,0,none⟩ (.slice A3 n3 c3)).setCell ⟨gb,1,none⟩ (.slice A4 n4 c4)) (some gb):=ag (p:=⟨gb,1,none⟩) (ag (p:=⟨gb,0,none⟩) (World.grownBy.refl iP (some gb)) (.inl rfl) _) (.inl rfl) _;have CX:=Hd (lK.o.far eT.o (by have:=HGT.o;omega) hgx);have TX:=Hd (show Blk ((iP.setCell ⟨gb,0,none⟩ (.slice A3 n3 c3)).setCell ⟨gb,1,none⟩ (.slice A4 n4 c4)) gb 41 (poA (.slice A3 n3 c3) (.slice A4 n4 c4)) from (eT.o.put 0 _).put 1 _);have NX:=Hd (uz.o.row eT.o (by decide) (by decide) (by decide) hgx);clear hgx;refine rdy1 12 (fun K hK=>?_);go_simp;refine hK.o _ _ ⟨CX.o.V,CX.o.P⟩ (fun hHeld=>?_);clear hK K;clear g0 g1 f0 f1 lK eT uz;refine tk hHeld 13 ?_ ?_ ?_;rotate_left
         · intro W hSw;go_simp;try (with_reducible rfl)
         refine wpAnyH_done (by kernel_rfl) ?_ _;generalize ((iP.setCell ⟨gb,0,none⟩ (.slice A3 n3 c3)).setCell ⟨gb,1,none⟩ (.slice A4 n4 c4))=wz at *;have CY:=Hd (CX.o.more (b' :=b+2+1700 * ((q - k' :Nat):Int)) (by have:=HBM.o;rw [HM.o.1];omega));by_cases hke:ke=0;case neg=>
           have q3:=(bT hke).1;obtain ⟨wk,wk2,wk3,wk4⟩:=WK.o;go_simp;go_wp2_with fail;clear wk wk2 wk3 wk4;(try dsimp only [Act.put]);go_roundw;case rel=>exact ⟨k',A1,n1,c1,A2,n2,c2,HKQ.o,rfl,Hd (CY.o.up (by have:=HM.o.1;omega))⟩
           case measure=>simp [intOf]
         case pos=>
           have q3:=(dY hke).1;have t0:=TX.o.cell 0;have t1:=TX.o.cell 1;obtain ⟨wk,wk2,wk3,wk4⟩:=WK.o;have LN:=Hd ((CY.o.set NX.o).up (show m+1≤q - k' by have:=HM.o.1;omega));go_simp;go_wp2_with ((with_reducible refine ae ?_ 41 (.tmp 7) (.tmp 32) ?_ CX.o.P (poA (.slice A3 n3 c3) (.slice A4 n4 c4)) ?_ ?_ ?_ ?_ ?_ ?_);(iterate 4 rfl);(exact lX _ _);rfl;(exact jH _ _ _ _ _ _));clear wk wk2 wk3 wk4 t0 t1;(try dsimp only [Act.put]);go_roundw;case rel=>exact ⟨k',A3,n3,c3,A4,n4,c4,HKQ.o,rfl,LN⟩
           case measure=>simp [intOf]
     · have yJ:=Hd (C5r.o.below ((Below.refl w5r.heap.size w5r).alloc (Nat.le_refl _) (.cells (poA (.slice none 0 0) (.slice none 0 0)) 41)));have Mg:=Hd (Blk.new w5r (poA (.slice none 0 0) (.slice none 0 0)) 41);have HGT:=Hd (show w.heap.size+1+1 < w5r.heap.size from C5r.o.P.lt);have RG:=Hd (E5r.o.alloc (.cells (poA (.slice none 0 0) (.slice none 0 0)) 41));clear E5r;clear C5r;go_simp;generalize hgb:w5r.heap.size=gb at *;generalize w5r.alloc (.cells (poA (.slice none 0 0) (.slice none 0 0)) 41)=P6 at *;refine hK.o _ _ ⟨yJ.o.V,yJ.o.P⟩ (fun hHeld=>?_);clear hK K hgb;refine rdy1 5 (fun K hK=>?_);go_simp;go_at_call 14;refine (bG P6 base g (bb+1600) 4 yJ.o.src (by have:=HBB.o;omega) (by omega) (by omega)).mono ?_;rintro e IU ⟨y,rfl,_,_,hs,hgr⟩;have lh:=Hd (yJ.o.step hgr hs);have Mm:=Hd (RG.o.src hgr (by omega));have BZ:=Hd (Mg.o.src hgr (by have:=HGT.o;omega));clear Mg;clear hs hgr yJ RG;go_simp;refine hK.o _ _ ⟨lh.o.V,lh.o.P⟩ (fun hHeld=>?_);clear hK K;refine tk hHeld 6 ?_ ?_ ?_;rotate_left
       · intro W hSw;go_simp;try (with_reducible rfl)
       refine rdy1 7 (fun K hK=>?_);go_simp;go_at_call 42;obtain ⟨ds,ms,ho1,ho2,ho3,ho4⟩:=lh.o.sp;have hlm:nm=ms.length:=(bM ho2).1;have hld:=(bM ho1.own).1;obtain ⟨⟨xs,hx1,hx2⟩,⟨ws,hx3,hx4⟩⟩:=lh.o.own;obtain ⟨A9,c9,e9,hfs⟩:=ho1.at;injection e9 with e9a e9b e9c;subst e9a;refine (qX HF.o m (by have:=HM.o.2;omega) xs A1 n1 c1 (bM hx1.own).1 hx2 (bM hx1.own).2 ws A2 n2 c2 (bM hx3).1 hx4 r Tr tn tc HTN.o HGR.o _ ds A n c hld ms Am nm cm hlm (by omega) ho3 IU hfs (bB ho2) hx1.at' (bB hx3) (gX Mm.o)).mono ?_;rintro e iQ ⟨u2,v2,ke,rfl,hpo,hb⟩;have uE:=Hd (hpo.low lh.o.only.size);obtain ⟨A3,n3,c3,A4,n4,c4,rfl,rfl⟩:=hpo.forms;clear ho1 ho2 ho3 ho4 hlm hld hx1 hx2 hx3 hx4 hfs hpo e9b e9c ds ms xs ws;have lL:=Hd (lh.o.below hb);have eU:=Hd (BZ.o.below hb);clear BZ;clear hb lh Mm;go_simp;refine hK.o _ _ ⟨lL.o.V,lL.o.P⟩ (fun hHeld=>?_);clear hK K;refine tk hHeld 8 ?_ ?_ (tk hHeld 9 ?_ ?_ (tk hHeld 10 ?_ ?_ ?_));iterate 3
         rotate_left
         · intro W hSw;go_simp;try (with_reducible rfl)
       have g0:=eU.o.cell 0;have g1:=eU.o.cell 1;have f0:=eU.o.free 0;have f1:=eU.o.free 1;have hgx:iQ.grownBy ((iQ.setCell ⟨gb,0,none⟩ (.slice A3 n3 c3)).setCell ⟨gb,1,none⟩ (.slice A4 n4 c4)) (some gb):=ag (p:=⟨gb,1,none⟩) (ag (p:=⟨gb,0,none⟩) (World.grownBy.refl iQ (some gb)) (.inl rfl) _) (.inl rfl) _;have CX:=Hd (lL.o.far eU.o (by have:=HGT.o;omega) hgx);have TX:=Hd (show Blk ((iQ.setCell ⟨gb,0,none⟩ (.slice A3 n3 c3)).setCell ⟨gb,1,none⟩ (.slice A4 n4 c4)) gb 41 (poA (.slice A3 n3 c3) (.slice A4 n4 c4)) from (eU.o.put 0 _).put 1 _);have NX:=Hd (uE.o.row eU.o (by decide) (by decide) (by decide) hgx);clear hgx;refine rdy1 12 (fun K hK=>?_);go_simp;refine hK.o _ _ ⟨CX.o.V,CX.o.P⟩ (fun hHeld=>?_);clear hK K;clear g0 g1 f0 f1 lL eU uE;refine tk hHeld 13 ?_ ?_ ?_;rotate_left
       · intro W hSw;go_simp;try (with_reducible rfl)
       refine wpAnyH_done (by kernel_rfl) ?_ _;generalize ((iQ.setCell ⟨gb,0,none⟩ (.slice A3 n3 c3)).setCell ⟨gb,1,none⟩ (.slice A4 n4 c4))=wz at *;have CY:=Hd (CX.o.more (b' :=b+2+1700 * ((q - k' :Nat):Int)) (by have:=HBM.o;rw [HM.o.1];omega));by_cases hke:ke=0;case neg=>
         have q3:=(bT hke).1;obtain ⟨wk,wk2,wk3,wk4⟩:=WK.o;go_simp;go_wp2_with fail;clear wk wk2 wk3 wk4;(try dsimp only [Act.put]);go_roundw;case rel=>exact ⟨k',A1,n1,c1,A2,n2,c2,HKQ.o,rfl,Hd (CY.o.up (by have:=HM.o.1;omega))⟩
         case measure=>simp [intOf]
       case pos=>
         have q3:=(dY hke).1;have t0:=TX.o.cell 0;have t1:=TX.o.cell 1;obtain ⟨wk,wk2,wk3,wk4⟩:=WK.o;have LN:=Hd ((CY.o.set NX.o).up (show m+1≤q - k' by have:=HM.o.1;omega));go_simp;go_wp2_with ((with_reducible refine ae ?_ 41 (.tmp 7) (.tmp 32) ?_ CX.o.P (poA (.slice A3 n3 c3) (.slice A4 n4 c4)) ?_ ?_ ?_ ?_ ?_ ?_);(iterate 4 rfl);(exact lX _ _);rfl;(exact jH _ _ _ _ _ _));clear wk wk2 wk3 wk4 t0 t1;(try dsimp only [Act.put]);go_roundw;case rel=>exact ⟨k',A3,n3,c3,A4,n4,c4,HKQ.o,rfl,LN⟩
         case measure=>simp [intOf]
   · have C5a:=Hd (C5.o.below ((Below.refl w5.heap.size w5).alloc (Nat.le_refl _) (.cells (poA (.slice none 0 0) (.slice none 0 0)) 41)));have T5a:=Hd (Blk.new w5 (poA (.slice none 0 0) (.slice none 0 0)) 41);have HGT:=Hd (show w.heap.size+1+1 < w5.heap.size from C5.o.P.lt);clear C5;go_simp;generalize hgb:w5.heap.size=gb at *;generalize w5.alloc (.cells (poA (.slice none 0 0) (.slice none 0 0)) 41)=w5a at *;refine hK.o _ _ ⟨C5a.o.V,C5a.o.P⟩ (fun hHeld=>?_);clear hK K hgb;refine rdy1 3 (fun K hK=>?_);go_simp;go_at_call 43;refine (wI w5a base g bb C5a.o.src (by have:=HBB.o;omega)).mono ?_;rintro e P7 ⟨r,Tr,tn,tc,rfl,hn,h3,hmk,_,hown,hs,hgr⟩;have yK:=Hd (C5a.o.step hgr hs);have RH:=Hd (hown.low (show w.heap.size≤w5a.heap.size+1 from Nat.le_succ_of_le C5a.o.only.size));have HTN:=Hd hn;have HGR:=Hd (show GdR r from ⟨hmk,by omega⟩);have Mh:=Hd (T5a.o.src hgr (by have:=HGT.o;omega));clear T5a;clear hs hgr C5a hown hn h3 hmk;go_simp;refine hK.o _ _ ⟨yK.o.V,yK.o.P⟩ (fun hHeld=>?_);clear hK K;refine rdy1 5 (fun K hK=>?_);go_simp;go_at_call 14;refine (bG P7 base g (bb+1600) 4 yK.o.src (by have:=HBB.o;omega) (by omega) (by omega)).mono ?_;rintro e IV ⟨y,rfl,_,_,hs,hgr⟩;have ll:=Hd (yK.o.step hgr hs);have Mo:=Hd (RH.o.src hgr (by omega));have Ca:=Hd (Mh.o.src hgr (by have:=HGT.o;omega));clear Mh;clear hs hgr yK RH;go_simp;refine hK.o _ _ ⟨ll.o.V,ll.o.P⟩ (fun hHeld=>?_);clear hK K;refine tk hHeld 6 ?_ ?_ ?_;rotate_left
     · intro W hSw;go_simp;try (with_reducible rfl)
     refine rdy1 7 (fun K hK=>?_);go_simp;go_at_call 42;obtain ⟨ds,ms,ho1,ho2,ho3,ho4⟩:=ll.o.sp;have hlm:nm=ms.length:=(bM ho2).1;have hld:=(bM ho1.own).1;obtain ⟨⟨xs,hx1,hx2⟩,⟨ws,hx3,hx4⟩⟩:=ll.o.own;obtain ⟨A9,c9,e9,hfs⟩:=ho1.at;injection e9 with e9a e9b e9c;subst e9a;refine (qX HF.o m (by have:=HM.o.2;omega) xs A1 n1 c1 (bM hx1.own).1 hx2 (bM hx1.own).2 ws A2 n2 c2 (bM hx3).1 hx4 r Tr tn tc HTN.o HGR.o _ ds A n c hld ms Am nm cm hlm (by omega) ho3 IV hfs (bB ho2) hx1.at' (bB hx3) (gX Mo.o)).mono ?_;rintro e iR ⟨u2,v2,ke,rfl,hpo,hb⟩;have uF:=Hd (hpo.low ll.o.only.size);obtain ⟨A3,n3,c3,A4,n4,c4,rfl,rfl⟩:=hpo.forms;clear ho1 ho2 ho3 ho4 hlm hld hx1 hx2 hx3 hx4 hfs hpo e9b e9c ds ms xs ws;have lM:=Hd (ll.o.below hb);have eX:=Hd (Ca.o.below hb);clear Ca;clear hb ll Mo;go_simp;refine hK.o _ _ ⟨lM.o.V,lM.o.P⟩ (fun hHeld=>?_);clear hK K;refine tk hHeld 8 ?_ ?_ (tk hHeld 9 ?_ ?_ (tk hHeld 10 ?_ ?_ ?_));iterate 3
       rotate_left
       · intro W hSw;go_simp;try (with_reducible rfl)
     have g0:=eX.o.cell 0;have g1:=eX.o.cell 1;have f0:=eX.o.free 0;have f1:=eX.o.free 1;have hgx:iR.grownBy ((iR.setCell ⟨gb,0,none⟩ (.slice A3 n3 c3)).setCell ⟨gb,1,none⟩ (.slice A4 n4 c4)) (some gb):=ag (p:=⟨gb,1,none⟩) (ag (p:=⟨gb,0,none⟩) (World.grownBy.refl iR (some gb)) (.inl rfl) _) (.inl rfl) _;have CX:=Hd (lM.o.far eX.o (by have:=HGT.o;omega) hgx);have TX:=Hd (show Blk ((iR.setCell ⟨gb,0,none⟩ (.slice A3 n3 c3)).setCell ⟨gb,1,none⟩ (.slice A4 n4 c4)) gb 41 (poA (.slice A3 n3 c3) (.slice A4 n4 c4)) from (eX.o.put 0 _).put 1 _);have NX:=Hd (uF.o.row eX.o (by decide) (by decide) (by decide) hgx);clear hgx;refine rdy1 12 (fun K hK=>?_);go_simp;refine hK.o _ _ ⟨CX.o.V,CX.o.P⟩ (fun hHeld=>?_);clear hK K;clear g0 g1 f0 f1 lM eX uF;refine tk hHeld 13 ?_ ?_ ?_;rotate_left
     · intro W hSw;go_simp;try (with_reducible rfl)
     refine wpAnyH_done (by kernel_rfl) ?_ _;generalize ((iR.setCell ⟨gb,0,none⟩ (.slice A3 n3 c3)).setCell ⟨gb,1,none⟩ (.slice A4 n4 c4))=wz at *;have CY:=Hd (CX.o.more (b' :=b+2+1700 * ((q - k' :Nat):Int)) (by have:=HBM.o;rw [HM.o.1];omega));by_cases hke:ke=0;case neg=>
       have q3:=(bT hke).1;obtain ⟨wk,wk2,wk3,wk4⟩:=WK.o;go_simp;go_wp2_with fail;clear wk wk2 wk3 wk4;(try dsimp only [Act.put]);go_roundw;case rel=>exact ⟨k',A1,n1,c1,A2,n2,c2,HKQ.o,rfl,Hd (CY.o.up (by have:=HM.o.1;omega))⟩
       case measure=>simp [intOf]
     case pos=>
       have q3:=(dY hke).1;have t0:=TX.o.cell 0;have t1:=TX.o.cell 1;obtain ⟨wk,wk2,wk3,wk4⟩:=WK.o;have LN:=Hd ((CY.o.set NX.o).up (show m+1≤q - k' by have:=HM.o.1;omega));go_simp;go_wp2_with ((with_reducible refine ae ?_ 41 (.tmp 7) (.tmp 32) ?_ CX.o.P (poA (.slice A3 n3 c3) (.slice A4 n4 c4)) ?_ ?_ ?_ ?_ ?_ ?_);(iterate 4 rfl);(exact lX _ _);rfl;(exact jH _ _ _ _ _ _));clear wk wk2 wk3 wk4 t0 t1;(try dsimp only [Act.put]);go_roundw;case rel=>exact ⟨k',A3,n3,c3,A4,n4,c4,HKQ.o,rfl,LN⟩
       case measure=>simp [intOf]
open Go.RowKit Go.Shelf
attribute [local go_sem] Oper.semAt_some
theorem Jf (v:Array Value) (hv:v.size=2) (dev ino:Int) (w:World):Calls Tryz.prog 97 #[.agg v,flV dev ino] w fun e w' =>e= .returned (.func (.func 160) #[] #[.pointer (some ⟨w.heap.size,0,none⟩), .pointer (some ⟨w.heap.size+1,0,none⟩)])∧w' =(w.alloc (.cells v 31)).alloc (.cells #[.int .i64 dev, .int .i64 ino] 44):=by
 go_in
 go_wp2
 go_ret;exact ⟨rfl,rfl⟩
theorem bF.block {w w' :World} {base:Nat} {v:Value} {L:List ByteArray} (h:bF w base v L) (hb:∀ g,v.ownBlock=some g→w'.heap[g]? =w.heap[g]?):bF w' base v L:=by
 refine ⟨h.1,?_⟩;rcases h.2 with hn | ⟨g,cap,cur,rfl,hb1,hgg,rest⟩
 · exact .inl hn
 · refine .inr ⟨g,cap,cur,rfl,hb1,?_,rest⟩;rw [hb g rfl];exact hgg
theorem Blk.obj {w:World} {g l:Nat} {t:TypeId} {cs:Array Value} (h:Blk w g t cs) {o:Obj} (o' :Obj) (ho:w.heap[l]? =some o) (hc:o.isCells=false):Blk (w.putObj l o') g t cs:=by
 have hne:l≠g:=fun e=>by
  subst e;have h' :w.heap[l]? =some (.cells cs t (0,0)):=h;rw [ho] at h';injection h' with h';rw [h'] at hc;cases hc
 exact (World.putObj_heap_other hne.symm).trans h
theorem KpB.refl (D:Nat) (g:Option Nat) (W:World):KpB D g W W:=fun _ _ _ h _=>h
theorem yB {f:List Dv} (h:FOk f) (l:List (Int×Int)):∀ s∈lu f l,s.size≤12:=fun s hs=>by
 obtain ⟨x,_,rfl⟩:=List.mem_map.1 hs;exact kV h x.1 x.2
theorem vS (L:List ByteArray) (h:∀ x∈L,x.size≤12):(jO L).size≤1+13 * L.length:=gD L ⟨#[47]⟩ h
theorem Blk.Ct {X Y:World} {b:Nat} {t:TypeId} {cs:Array Value} {row:Option Nat} (h:Blk X b t cs) (hg:X.grownBy Y row) (hr:∀ r,row=some r→∃ o:Obj,X.heap[r]? =some o∧o.isCells=false):Blk Y b t cs:=h.grown hg (fun e=>by
 obtain ⟨o,ho,hc⟩:=hr b e;rw [show X.heap[b]? =_ from h] at ho;cases ho;cases hc)
theorem KpB.setCell {D:Nat} {g:Option Nat} {W:World} {p:Addr} (v:Value) (hD:D≠p.block) (hg:∀ q,g=some q→q≠p.block):KpB D g W (W.setCell p v):=fun b o hb ho _=>by
 refine (heap_setCell_other W p b v ?_).trans ho;rcases hb with rfl | hb
 · exact hD
 · exact hg b hb.symm
theorem Cu {W:World} {base:Nat} {v:Value} {L:List ByteArray} (h:bF W base v L):∀ (j:Nat) (o:Obj),v.ownBlock=some j→W.heap[j]? =some o→o.isCells=true:=fun j o hj ho=>by
 rcases h.2 with ⟨rfl,_⟩ | ⟨g,cap,cur,rfl,hb1,hgg,_⟩
 · cases hj
 · have e:g=j:=Option.some.inj hj;subst e;rw [hgg] at ho;injection ho with ho;subst ho;rfl
theorem bF.TW {W:World} {base G:Nat} {v:Value} {L:List ByteArray} {t:TypeId} {cs:Array Value} (h:bF W base v L) (hg:Blk W G t cs) (ht:(9:Nat)≠t) (u:Value):bF (W.setCell ⟨G,0,none⟩ u) base v L:=
 bF.block h (fun g e=>heap_setCell_other W ⟨G,0,none⟩ g u (fun e2=>by
  have e2:g=G:=e2;subst e2;rcases h.2 with ⟨rfl,_⟩ | ⟨g',cap,cur,rfl,hb1,hgg,_⟩
  · cases e
  · have e3:g' =g:=Option.some.inj e;subst e3;rw [show W.heap[g']? =_ from hg] at hgg;injection hgg with hgg;injection hgg with _ h2;exact ht h2.symm))
theorem pI {z:Int×Int} :∀ {q l:List (Int×Int)} {rest:List (Int×Int)},(∀ x∈q,x≠z)→(∀ x∈l,x≠z)→(q ++ [z]) ++ rest=l ++ [z]→q=l
 | [], [],_,_,_,_=>rfl
 | [],y :: l,_,_,h2,e=>by
  simp only [List.nil_append,List.cons_append] at e;injection e with e _;exact absurd e.symm (h2 y (List.mem_cons_self ..))
 | x :: q, [],_,h1,_,e=>by
  simp only [List.nil_append,List.cons_append] at e;injection e with e _;exact absurd e (h1 x (List.mem_cons_self ..))
 | x :: q,y :: l,rest,h1,h2,e=>by
  simp only [List.cons_append] at e;injection e with e1 e2;rw [e1,pI (fun a ha=>h1 a (List.mem_cons_of_mem _ ha)) (fun a ha=>h2 a (List.mem_cons_of_mem _ ha)) (rest:=rest) (by rw [← e2])]
theorem yC {W:World} {D H:Nat} {s:ByteArray} {b:Bool} (a1:Blk W (H+2) 9 #[.string s]) (a2:Blk W (H+3) 4 #[.bool b]) (hD:H+4≤D):
  (W.putObj D (.deferred none)).cell? ⟨H+1+1,0,none⟩=some (.string s)∧(W.putObj D (.deferred none)).cell? ⟨H+1+1+1,0,none⟩=some (.bool b):=by
 have e1:Blk (W.putObj D (.deferred none)) (H+2) 9 #[.string s]:=(World.putObj_heap_other (by omega)).trans a1;have e2:Blk (W.putObj D (.deferred none)) (H+3) 4 #[.bool b]:=(World.putObj_heap_other (by omega)).trans a2;exact ⟨e1.cell 0,e2.cell 0⟩
theorem Fb (w:World) (s:ByteArray):cz (w.alloc (.cells #[.string s] 9)) (w.alloc (.cells #[.string s] 9)).heap.size (some ⟨w.heap.size,0,none⟩) [s]:=fun k hk=>by
 obtain rfl:k=0:=by simp at hk;omega
 exact ⟨_,rfl,by simp,(Blk.new w #[.string s] 9).cell 0⟩
def VWh (v0:Value) (s:ByteArray) (j:Nat) (v:Value) (W:World):Prop:=match j with
 | 0=>v=v0
 | 3=>v= .string s
 | 4=>∃ g:Nat,v= .slice (some ⟨g,0,none⟩) 1 1∧cz W W.heap.size (some ⟨g,0,none⟩) [s]
 | _=>True
theorem VWh.below {v0:Value} {s:ByteArray} {A B:World} (hb:Below A.heap.size A B) (j:Nat) (x:Value) (h:VWh v0 s j x A):VWh v0 s j x B:=by
 unfold VWh at h ⊢;split at h <;> first | exact h | (obtain ⟨g,h1,h2⟩:=h;exact ⟨g,h1,(h2.keep hb (Nat.le_refl _)).more hb.size⟩)
structure NmI (w:World) (H:Nat) (W0:World) (g:Nat) (xs:List BkS) (W:World):Prop where
 oth:KeepsOthers W0 W
 low:Below H w W
 R1:Blk W (H+2) 9 #[.string ⟨#[]⟩]
 R2:Blk W (H+3) 4 #[.bool false]
 box:Blk W g 9 #[.string (jO (bkT xs))]
theorem NmI.own {w W0:World} {H g B:Nat} (hB:W0.heap.size≤B) (hH:H≤B:=by omega):OwnFrom B (NmI w H W0 g):=fun s X Y row hs hg hr=>by
 have hr' :∀ r,row=some r→∃ o:Obj,X.heap[r]? =some o∧o.isCells=false:=fun r e=>(hr r e).2;refine ⟨⟨Nat.le_trans hs.oth.size hg.size,fun k o hk ho=>?_⟩,⟨hg.os.trans hs.low.os,hg.tape.trans hs.low.tape,hg.output.trans hs.low.output,Nat.le_trans hs.low.size hg.size,fun i hi=>?_⟩,hs.R1.Ct hg hr',hs.R2.Ct hg hr',hs.box.Ct hg hr'⟩
 · have hX:=hs.oth.same k o hk ho;refine (hg.block k (Array.getElem?_eq_some_iff.1 hX).1 (fun e=>?_)).trans hX;have h1:=(hr k e.symm).1;have h2:=(Array.getElem?_eq_some_iff.1 hk).1;omega
 · have h3:=hs.R1.lt;refine (hg.block i (by omega) (fun e=>?_)).trans (hs.low.block i hi);have h1:=(hr i e.symm).1;omega
structure WhI (w:World) (H G:Nat) (sv:Array Value) (f:List Dv) (pre:List (Int×Int)) (W:World):Prop where
 low:Below H w W
 V:Blk W H 31 sv
 R1:Blk W (H+2) 9 #[.string ⟨#[]⟩]
 R2:Blk W (H+3) 4 #[.bool false]
 N:∃ v,Blk W G 49 #[v]∧bF W (G+3) v (lu f pre)
 no:∀ x∈pre,x≠(0,1)
 hG:H+4≤G
structure WhR (w:World) (H G:Nat) (f:List Dv) (c:Code) (pre:List (Int×Int)) (W:World):Prop where
 ret:c= .ret
 low:Below H w W
 ans:∃ q,pre=q ++ [(0,1)]∧(∀ x∈q,x≠(0,1))∧Blk W (H+2) 9 #[.string (jO (lu f q).reverse)]
 R2:Blk W (H+3) 4 #[.bool true]
 hG:H+4≤G
section
variable {w A B:World} {H G:Nat} {sv:Array Value} {f:List Dv} {pre:List (Int×Int)} {c:Code}
theorem WhI.mid (h:WhI w H G sv f pre A) (hm:Mid (G+1) (G+3) A B):WhI w H G sv f pre B:=by
 obtain ⟨v,h1,h2⟩:=h.N;have:=h.hG;exact ⟨h.low.trans (hm.low.mono (by omega)),h.V.keep hm.low (by omega),h.R1.keep hm.low (by omega),h.R2.keep hm.low (by omega),⟨v,h1.keep hm.low (by omega),h2.block fun g hg=>hm.high g (World.ownsRow.lt h2 g hg).1 (World.ownsRow.lt h2 g hg).2⟩,h.no,h.hG⟩
theorem WhR.mid (h:WhR w H G f c pre A) (hm:Mid (G+1) (G+3) A B):WhR w H G f c pre B:=by
 obtain ⟨q,h1,h2,h3⟩:=h.ans;have:=h.hG;exact ⟨h.ret,h.low.trans (hm.low.mono (by omega)),⟨q,h1,h2,h3.keep hm.low (by omega)⟩,h.R2.keep hm.low (by omega),h.hG⟩
theorem WhI.obj (h:WhI w H G sv f pre A) {l:Nat} {o:Obj} (o' :Obj) (hl:H≤l) (ho:A.heap[l]? =some o) (hc:o.isCells=false):WhI w H G sv f pre (A.putObj l o'):=by
 obtain ⟨v,h1,h2⟩:=h.N;exact ⟨h.low.trans (j6 A o' hl (Array.getElem?_eq_some_iff.1 ho).1),h.V.obj o' ho hc,h.R1.obj o' ho hc,h.R2.obj o' ho hc,⟨v,h1.obj o' ho hc,ownsRow_putObj h2 o' ho hc⟩,h.no,h.hG⟩
theorem WhR.obj (h:WhR w H G f c pre A) {l:Nat} {o:Obj} (o' :Obj) (hl:H≤l) (ho:A.heap[l]? =some o) (hc:o.isCells=false):WhR w H G f c pre (A.putObj l o'):=by
 obtain ⟨q,h1,h2,h3⟩:=h.ans;exact ⟨h.ret,h.low.trans (j6 A o' hl (Array.getElem?_eq_some_iff.1 ho).1),⟨q,h1,h2,h3.obj o' ho hc⟩,h.R2.obj o' ho hc,h.hG⟩
end
structure WhX (H:Nat) (hi:Nat) (fr:Nat→Value→Act) (x:Int×Int) (a:Act) (W:World):Prop where
 ex:∃ g,a=fr g (flV x.1 x.2)∧Blk W g 44 #[.int .i64 x.1, .int .i64 x.2]∧hi≤g
theorem Cv (ds:List Dm) (A:Option Addr) (n c:Nat) (hn:n=ds.length) (ms:List Mt) (Am:Option Addr) (nm cm:Nat) (hnm:nm=ms.length) (hl:nm≤1000) (hok:FOk (ds.map Dm.dv)) {k:Nat} {dev ino:Int} {L:List ByteArray} (h:mq (ds.map Dm.dv) ms k dev ino L) (hk:k≤CK (ds.map Dm.dv)) (hk9:k≤1000)
  (RU:dz (ds.map Dm.dv) dev ino=true) (hmt:iH ms dev=true) (w:World) (hf:bR w w.heap.size A ds) (hm:AtE EMt w w.heap.size Am ms):
  Calls Tryz.prog 49 #[.agg #[slV A n c,slV Am nm cm],flV dev ino] w (WhP (jO L) true w):=by
 have Vn:Tryz.prog.follows .mixedOrders=true:=by kernel_rfl
 obtain ⟨H,hH⟩:∃ H,w.heap.size=H:=⟨_,rfl⟩;obtain ⟨w0,hw0⟩:∃ w0,w0=(((w.alloc (.cells #[slV A n c,slV Am nm cm] 31)).alloc (.cells #[.int .i64 dev, .int .i64 ino] 44)).alloc (.cells #[.string ⟨#[]⟩] 9)).alloc (.cells #[.bool false] 4):=⟨_,rfl⟩;have B0:Below H w w0:=by rw [hw0, ← hH];exact ((((Below.refl _ _).alloc (Nat.le_refl _) _).alloc (by simp) _).alloc (by simp;omega) _).alloc (by simp;omega) _
 have hs0:w0.heap.size=H+4:=by rw [hw0, ← hH];simp
 have V0:Blk w0 H 31 #[slV A n c,slV Am nm cm]:=by rw [hw0, ← hH];exact (((Blk.new w _ _).alloc _).alloc _).alloc _
 have U0:Blk w0 (H+1) 44 #[.int .i64 dev, .int .i64 ino]:=by
  have:=Blk.new (w.alloc (.cells #[slV A n c,slV Am nm cm] 31)) #[.int .i64 dev, .int .i64 ino] 44;simp only [World.size_alloc,hH] at this;rw [hw0];exact (this.alloc _).alloc _
 have R1:Blk w0 (H+2) 9 #[.string ⟨#[]⟩]:=by
  have:=Blk.new ((w.alloc (.cells #[slV A n c,slV Am nm cm] 31)).alloc (.cells #[.int .i64 dev, .int .i64 ino] 44)) #[.string ⟨#[]⟩] 9;simp only [World.size_alloc,hH] at this;rw [hw0];exact this.alloc _
 have R2:Blk w0 (H+3) 4 #[.bool false]:=by
  have:=Blk.new (((w.alloc (.cells #[slV A n c,slV Am nm cm] 31)).alloc (.cells #[.int .i64 dev, .int .i64 ino] 44)).alloc (.cells #[.string ⟨#[]⟩] 9)) #[.bool false] 4;simp only [World.size_alloc,hH] at this;rw [hw0];exact this
 have F0:=hf.keep B0 (by omega);have M0:=hm.keep B0 (by omega);have HN:=Hd hn;have HNM:=Hd hnm;clear hn hnm;refine (callsIn_wide (n:=20)).1 ?_;refine callsIn_of_wp_marks Tryz.func49 rfl trivial ?_ rfl;simp only [Tryz.ntmps49,List.size_toArray,List.length_cons,List.length_nil,Nat.reduceAdd,Nat.reduceSub,Array.replicate_succ,Array.replicate_zero,List.push_toArray,List.append_toArray,List.nil_append,List.cons_append]
 gi_wp2_with fail
 rw [← hw0];clear hw0;refine ⟨trivial,(callsIn_wide.2 (Gh dev ino ds A n c HN.o (slV Am nm cm) w0 (F0.more (by omega)))).mono ?_⟩;rw [RU];rintro en w1 ⟨rfl,hb1⟩;have V1:=V0.below hb1;have U1:=U0.below hb1;have R11:=R1.below hb1;have R21:=R2.below hb1;have F1:=F0.keep hb1 (by omega);have M1:=M0.keep hb1 (by omega);have B1:Below H w w1:=B0.trans (hb1.mono (by omega));have hs1:H+4≤w1.heap.size:=by have:=hb1.size;omega
 clear hb1 V0 U0 R1 R2 F0 M0 B0 hs0 w0 RU;have u0:=U1.cell 0;have v0:=V1.cell 0;have v1:=V1.cell 1
 gi_wp2_with fail
 clear u0 v0 v1;refine ⟨trivial,(callsIn_wide.2 (MI dev (slV A n c) ms Am nm cm HNM.o hl w1 (M1.more (by omega)))).mono ?_⟩;rw [hmt];rintro en w2 ⟨rfl,hb1⟩;have V2:=V1.below hb1;have U2:=U1.below hb1;have R12:=R11.below hb1;have R22:=R21.below hb1;have F2:=F1.keep hb1 (by omega);have M2:=M1.keep hb1 (by omega);have B2:Below H w w2:=B1.trans (hb1.mono (by omega));have hs2:H+4≤w2.heap.size:=by have:=hb1.size;omega
 clear hb1 V1 U1 R11 R21 F1 M1 B1 hs1 w1 hmt;have v0:=(V2.alloc (.cells #[.slice none 0 0] 49)).cell 0;have v1:=(V2.alloc (.cells #[.slice none 0 0] 49)).cell 1;have u0:=(U2.alloc (.cells #[.slice none 0 0] 49)).cell 0;have u1:=(U2.alloc (.cells #[.slice none 0 0] 49)).cell 1
 gi_wp2_with fail
 clear u0 u1 v0 v1;refine ⟨trivial,(callsIn_wide.2 (Jf #[slV A n c,slV Am nm cm] rfl dev ino _)).mono ?_⟩;rintro en w3 ⟨rfl,hw3⟩;obtain ⟨G,hG⟩:∃ G,w2.heap.size=G:=⟨_,rfl⟩;rw [World.size_alloc,hG];have hs3:w3.heap.size=G+3:=by rw [hw3, ← hG];simp
 have b23:Below G w2 w3:=by rw [hw3, ← hG];exact (((Below.refl _ _).alloc (Nat.le_refl _) _).alloc (by simp) _).alloc (by simp;omega) _
 have hI0:WhI w H G #[slV A n c,slV Am nm cm] (ds.map Dm.dv) [] w3:=by
  refine ⟨B2.trans (b23.mono (by omega)),V2.keep b23 (by have:=V2.lt;omega),R12.keep b23 (by have:=R12.lt;omega),R22.keep b23 (by have:=R22.lt;omega),⟨.slice none 0 0,?_,bF.nil _ _⟩,(fun x hx=>by cases hx),by omega⟩;rw [hw3, ← hG];exact ((Blk.new w2 _ _).alloc _).alloc _
 have hC0:ChS w3 w3 H (G+1) A n c ds Am nm cm ms dev ino:=by
  refine ⟨?_,?_,F2.keep b23 (by omega) |>.more (by omega),M2.keep b23 (by omega) |>.more (by omega),by omega⟩
  · have:=Blk.new (w2.alloc (.cells #[.slice none 0 0] 49)) #[slV A n c,slV Am nm cm] 31;simp only [World.size_alloc,hG] at this;rw [hw3];exact this.alloc _
  · have:=Blk.new ((w2.alloc (.cells #[.slice none 0 0] 49)).alloc (.cells #[slV A n c,slV Am nm cm] 31)) #[.int .i64 dev, .int .i64 ino] 44;simp only [World.size_alloc,hG] at this;rw [hw3];exact this
 obtain ⟨l0,hch,hlen,hl0,hL⟩:=h.chn;have hGH:H+4≤G:=by omega
 clear hw3 b23 V2 U2 R12 R22 F2 M2 B2 hs2
 gi_wp2
 refine uJ (lo:=G+1) (hi:=G+1+2) rfl (by decide) (gf:=160) (lb:=#[.pointer (some ⟨G+1,0,none⟩), .pointer (some ⟨G+1+1,0,none⟩)]) rfl trivial (enters_of Tryz.func160 (by kernel_rfl) rfl)
  (by omega) (by omega) (lq H (G+1)) (fun h k=>h.trans k) (fun A l o o' hl ho hc=>lq.obj A l o o' (by omega) ho hc)
  (Co (20 - 1) (G+1) H (by decide) ds A n c HN.o ms Am nm cm HNM.o hl dev ino _ hch (by rw [hlen];exact hk) w3 hC0) rfl
  (WhI w H G #[slV A n c,slV Am nm cm] (ds.map Dm.dv)) (WhR w H G (ds.map Dm.dv)) (fun _ _ _ h hb=>h.mid hb) (fun _ _ _ _ h hb=>h.mid hb) (fun _ _ l o o' h hl ho hc=>h.obj o' (by omega) ho hc) (fun _ _ _ l o o' h hl ho hc=>h.obj o' (by omega) ho hc) hI0
  (WhX H (G+3) (fun g v=> { tmps:=#[Value.agg #[slV A n c,slV Am nm cm],flV dev ino,Value.pointer (some { block:=H,off:=0 }),
        Value.pointer (some { block:=H+1,off:=0 }),Value.pointer (some { block:=H+1+1,off:=0 }),
        Value.pointer (some { block:=H+1+1+1,off:=0 }),Value.pointer (some { block:=G,off:=0 }),
        Value.pointer (some { block:=g,off:=0 }),undef,undef,undef,
        Value.agg #[slV A n c,slV Am nm cm],Value.agg #[Value.int IntKind.i64 dev,Value.int IntKind.i64 ino],
        Value.bool true,Value.bool false,Value.bool false,Value.agg #[slV A n c,slV Am nm cm],
        Value.pointer (some { block:=H+1,off:=0 }),Value.int IntKind.i64 dev,Value.bool true,
        Value.bool false,Value.bool false,Value.agg #[slV A n c,slV Am nm cm],
        Value.agg #[Value.int IntKind.i64 dev,Value.int IntKind.i64 ino],
        Value.func (Fn.func 160) #[]
          #[Value.pointer (some { block:=G+1,off:=0 }),Value.pointer (some { block:=G+1+1,off:=0 })],
        v,undef,undef,undef,undef,undef,undef,undef,undef,undef,undef,undef,undef,undef,
        undef,undef,undef,undef,undef,undef,undef,undef,undef],defers:= [] })) (fun x a' A l o o' h ho hc=>by obtain ⟨g,h1,h2,h3⟩:=h.ex;exact ⟨g,h1,h2.obj o' ho hc,h3⟩) ?assign ?body ?done ?stop
 case assign=>
  intro l pre x W K hI hhi hK
  gi_wp2
  have hb:=(Below.refl W.heap.size W).alloc (Nat.le_refl _) (.cells #[.int .i64 x.1, .int .i64 x.2] 44);exact hK _ _ (KeepsOthers.alloc _ _) (lq.below hb (by omega)) (hI.mid (iy hb (by omega))) ⟨⟨W.heap.size,rfl,Blk.new W _ _,by omega⟩⟩
 case body=>
  rintro l pre x a' W - hI hX ⟨r,hr⟩ hl hhi hlen;obtain ⟨g,rfl,hX,hg⟩:=hX.ex;obtain ⟨xd,xi⟩:=x;have x0:=hX.cell 0;have x1:=hX.cell 1;have hn1:1≤20 - 1 - 1:=by decide
  by_cases hx:xd=0∧xi=1
  · obtain ⟨rfl,rfl⟩:=hx;obtain ⟨v,hN,hO⟩:=hI.N;have HX:=Hd hX;have HI:=Hd hI;have n0:(W.alloc (.cells #[.string ⟨#[47]⟩] 9)).cell? ⟨G,0,none⟩=some v:=(hN.alloc (.cells #[.string ⟨#[47]⟩] 9)).cell 0;have n1:W.cell? ⟨G,0,none⟩=some v:=hN.cell 0;have n2:G < W.heap.size:=hN.lt;have n3:G≠W.heap.size:=(by omega);obtain ⟨A1,c1,rfl,hst⟩:=hO.strs;have HST:=Hd hst;have HAB:=Hd (show ∀ q,(A1.map Addr.block)=some q→q < W.heap.size from fun q hq=>by
      cases A1 with
      | none=>cases hq
      | some ad=>exact (World.ownsRow.lt hO q (by rw [← hq];rfl)).2)
    have HLN:=Hd (show (lu (ds.map Dm.dv) pre).length≤1000 by
      have h1:(lu (ds.map Dm.dv) pre).length≤pre.length:=(by unfold lu;rw [List.length_map];exact List.length_filter_le _ _);omega)
    have Qk:=Hd (yB hok pre);have TY:=Hd (show ∀ x∈pre,x≠(0,1) from hI.no);have HRI:=Hd (And.intro hI.low (And.intro hI.R1 hI.R2));generalize hLL:lu (ds.map Dm.dv) pre=LL at *;have HLL:=Hd hLL;clear hI hX hO hst hLL
    gi_wp2_with fail
    refine ⟨trivial,CallsIn.inRound l ((callsIn_wide.2 (MK A1 LL.length c1 _)).mono ?_)⟩;rintro en w3 ⟨rfl,hw3⟩;rw [World.size_alloc];have bW3:Below W.heap.size W w3:=(by rw [hw3];exact ((Below.refl _ _).alloc (Nat.le_refl _) _).alloc (by simp) _);have hs3:w3.heap.size=W.heap.size+1+1:=(by rw [hw3];simp);have WB:=Hd (show Blk w3 W.heap.size 9 #[.string ⟨#[47]⟩] by rw [hw3];exact (Blk.new W _ _).alloc _);have hD3:Blk w3 (W.heap.size+1) 49 #[.slice A1 LL.length c1]:=by
      have:=Blk.new (W.alloc (.cells #[.string ⟨#[47]⟩] 9)) #[.slice A1 LL.length c1] 49;rw [World.size_alloc] at this;rw [hw3];exact this
    have hl3:w3.heap[l]? =some (.loop r):=(bW3.block l (Array.getElem?_eq_some_iff.1 hr).1).trans hr;have HK3:=Hd (show KeepsOthers W w3 by rw [hw3];exact (KeepsOthers.alloc _ _).trans (KeepsOthers.alloc _ _));have HR3:=Hd (And.intro (HRI.o.1.trans (bW3.mono (by omega))) (And.intro (HRI.o.2.1.below bW3) (HRI.o.2.2.below bW3)));clear hw3 HRI HX HI n0 n1
    gi_wp2
    refine wpIn_rangeFunc_ownN (l₀:=l) rfl hl3 (by decide) (gf:=161) (lb:=#[.pointer (some ⟨W.heap.size+1,0,none⟩)]) rfl trivial (enters_of Tryz.func161 (by kernel_rfl) rfl)
      (SeqStopsK.inRound l (Fa _ (W.heap.size+1) (by decide) A1 LL.length c1 LL rfl (by have:=HLN.o;omega) Qk.o W.heap.size w3 hD3 (by omega) (HST.o.keep bW3 (Nat.le_refl _))))
      (fun h k=>h.trans k) (fun W' l' o o' _ h1 h2 _=>KpB.obj W' l' o o' h1 h2) (Below.refl _ _) (fun _=>rfl)
      (fun xs W' =>NmI w H W W.heap.size xs W') (fun _ _ _=>False) (NmI.own (by omega)) (fun _ _ _ _ _ h _ _=>h) ⟨HK3.o,HR3.o.1,HR3.o.2.1,HR3.o.2.2,WB.o⟩
      (fun x a' _=>a' = { tmps:=#[Value.agg #[slV A n c,slV Am nm cm],flV dev ino,Value.pointer (some { block:=H,off:=0 }),
           Value.pointer (some { block:=H+1,off:=0 }),
           Value.pointer (some { block:=H+1+1,off:=0 }),
           Value.pointer (some { block:=H+1+1+1,off:=0 }),
           Value.pointer (some { block:=G,off:=0 }),Value.pointer (some { block:=g,off:=0 }),
           Value.pointer (some { block:=W.heap.size,off:=0 }),undef, .string x.1.2,
           Value.agg #[slV A n c,slV Am nm cm],Value.agg #[Value.int IntKind.i64 dev,Value.int IntKind.i64 ino],
           Value.bool true,Value.bool false,Value.bool false,Value.agg #[slV A n c,slV Am nm cm],
           Value.pointer (some { block:=H+1,off:=0 }),Value.int IntKind.i64 dev,Value.bool true,
           Value.bool false,Value.bool false,Value.agg #[slV A n c,slV Am nm cm],
           Value.agg #[Value.int IntKind.i64 dev,Value.int IntKind.i64 ino],
           Value.func (Fn.func 160) #[]
            #[Value.pointer (some { block:=G+1,off:=0 }),
             Value.pointer (some { block:=G+1+1,off:=0 })],
           flV 0 1,Value.bool true,Value.agg #[Value.int IntKind.i64 0,Value.int IntKind.i64 1],
           Value.agg #[Value.int IntKind.i64 0,Value.int IntKind.i64 1],Value.bool true, .slice A1 LL.length c1, .func (.func 161) #[] #[.pointer (some ⟨W.heap.size+1,0,none⟩)], .int .i64 x.1.1, .string x.1.2,
           undef,undef,undef,undef,undef,undef,undef,undef,undef,undef,undef,undef,undef,undef],defers:= [] }) (fun _ _=>ownFrom_pure _ _) ?as2 ?bo2 ?do2 ?st2
    case as2=>
      intro l2 Jg x2 W2 K2 hI2 hK2
      gi_wp2
      exact hK2 _ _ (KeepsFrom.refl _ _) (KpB.refl _ _ _) hI2 rfl
    case bo2=>
      intro l2 Jg x2 a2 W2 hl2 hr2 hI2 ha2 TZ;subst ha2;have b0:=hI2.box.cell 0;have f0:=hI2.box.free 0;have HI2:=Hd hI2;have HSZ:=Hd (show (jO (bkT Jg)).size≤100000000 by
        have h1:=vS (bkT Jg) (Cr Jg);have h2:(bkT Jg).length=Jg.length:=List.length_map ..;have:=HLN.o;omega)
      have HX2:=Hd x2.2;clear hI2
      gi_wp2_with fail
      refine ⟨trivial,CallsIn.inRound l2 (CallsIn.inRound l ((callsIn_wide.2 (MM _ _ HSZ.o (by have:=HX2.o;omega) W2)).mono ?_))⟩;rintro e w4 ⟨rfl,rfl⟩
      gi_wp2_with fail
      exact ⟨(KeepsOthers.setCell _ _ _).from _,KpB.setCell (p:=⟨W.heap.size,0,none⟩) _ (by show W.heap.size+1≠W.heap.size;omega) (fun q hq=>by have:=HAB.o q hq;show q≠W.heap.size;omega),(HI2.o.oth).trans (KeepsOthers.setCell _ _ _),HI2.o.low.setCell (p:=⟨W.heap.size,0,none⟩) (by show H≤W.heap.size;omega) _,HI2.o.R1.af _ (by show H+2≠W.heap.size;omega),HI2.o.R2.af _ (by show H+3≠W.heap.size;omega),by
        have:=HI2.o.box.put 0 (.string (iI (jO (bkT Jg)) x2.1.2));rw [Cq,show bkT [x2]= [x2.1.2] from rfl,o7];exact this⟩
    case do2=>
      intro xs W2 hS hI2;have b0:=hI2.box.cell 0;have r1:=hI2.R1.cell 0;have f1:=hI2.R1.free 0;have r2:=hI2.R2.cell 0;have f2:=hI2.R2.free 0;rw [show bkT xs=LL.reverse from hS] at b0;have HI2:=Hd hI2;clear hI2 hS
      gi_wp2_with fail
      exact ⟨(HI2.o.oth.trans (KeepsOthers.setCell _ _ _)).trans (KeepsOthers.setCell _ _ _),rfl,(HI2.o.low.setCell (p:=⟨H+1+1,0,none⟩) (by show H≤H+1+1;omega) _).setCell (p:=⟨H+1+1+1,0,none⟩) (by show H≤H+1+1+1;omega) _,
        ⟨pre,rfl,TY.o,by rw [HLL.o];exact (HI2.o.R1.put 0 _).af _ (by show H+2≠H+1+1+1;omega)⟩,(HI2.o.R2.af (p:=⟨H+1+1,0,none⟩) _ (by show H+3≠H+1+1;omega)).put 0 _,hGH⟩
    case st2=>intro _ _ _ _ h;exact h.elim
  · have HNO:=Hd (show ∀ y∈pre ++ [(xd,xi)],y≠(0,1) from fun y hy=>by
      rcases List.mem_append.1 hy with hy | hy
      · exact hI.no y hy
      · rw [List.mem_singleton] at hy;subst hy;intro e;injection e with e1 e2;exact hx ⟨e1,e2⟩)
    by_cases hxi:xi=1
    · subst hxi;have b0:=(bT (fun h0:xd=0=>hx ⟨h0,rfl⟩)).1;clear hx
      gi_wp2_with fail
      exact ⟨KeepsOthers.refl _,⟨Below.refl _ _,fun _ _ _ _ _ h=>h⟩,hI.low,hI.V,hI.R1,hI.R2,by rw [xH,xG];simpa [lu] using hI.N,HNO.o,hI.hG⟩
    · have b1:=(bT hxi).2;have b0:=(bT hxi).1;have HXI:=Hd hxi;clear hxi hx
      gi_wp2_with fail
      clear x0 x1 b0 b1;obtain ⟨v,hN,hO⟩:=hI.N;have HI:=Hd hI;have HX:=Hd hX;have HO:=Hd hO;have HLEN:=Hd hlen;clear hI hX hO hlen;have HIN:=Hd (show bR W W.heap.size A ds from (hf.keep HI.o.low (by omega)).more (by have:=HI.o.hG;have:=HI.o.V.lt;omega));have HVV:=Hd HI.o.V;have J0:=Hd (show Blk W.drew G 49 #[v]∧bF W.drew (G+3) v (lu (ds.map Dm.dv) pre)∧Below W.heap.size W W.drew from ⟨hN.below (Below.refl _ _).drew,bF.below HO.o (Below.refl _ _).drew,(Below.refl _ _).drew⟩);refine kG (fun W' =>Blk W' H 31 #[slV A n c,slV Am nm cm]∧Blk W' g 44 #[.int .i64 xd, .int .i64 xi]) (fun hlo=>by obtain ⟨_,_,h⟩:=hlo;exact h) rfl (by kernel_rfl) ⟨Blk.below HI.o.V (Below.refl _ _).drew,Blk.below HX.o (Below.refl _ _).drew⟩ (fun hHeld=>?_);refine tk hHeld 1 ?_ ?_ (tk hHeld 2 ?_ ?_ ?_);iterate 2
        rotate_left
        · intro W hSw;have s1:=hSw.1.cell 0;have s2:=hSw.1.cell 1;have s3:=hSw.2.cell 0;have s4:=hSw.2.cell 1;go_simp;try (with_reducible rfl)
      refine gT [0,3,4] [(0,42),(3,45),(4,46)] (fun W' =>Blk W' G 49 #[v]∧bF W' (G+3) v (lu (ds.map Dm.dv) pre)∧Below W.heap.size W W') (VWh v (fT (ds.map Dm.dv) xd xi)) (fun A B=>Below A.heap.size A B) 2 hHeld J0.o rfl (by kernel_rfl) (by kernel_rfl) (fun A B hb=>⟨fun h=>⟨Blk.below h.1 hb,Blk.below h.2 hb⟩,fun h=>⟨Blk.below h.1 hb,bF.below h.2.1 hb,aa h.2.2 hb⟩,fun j x h=>VWh.below hb j x h⟩) ?steps ?fin;case steps=>
        refine bf.cons (i:=0) rfl (fun u W1 hSW hJW hpre K hK=>?_) ?_
        · dsimp only [bL,List.foldl];have s0:=hJW.1.cell 0;go_simp;exact hK.o v _ _ (by kernel_rfl) rfl (Below.refl _ _)
        refine bf.cons (i:=3) rfl (fun u W1 hSW hJW hpre K hK=>?_) ?_
        · dsimp only [bL,List.foldl];go_simp;go_at_call 100;refine (MJ xd xi ds A n c HN.o (slV Am nm cm) W1 ((hf.keep (HI.o.low.trans (hJW.2.2.mono (by omega))) (by omega)).more (by have:=hJW.1.lt;have:=HI.o.hG;omega))).mono ?_;rintro e W2 ⟨rfl,hb⟩;go_simp;exact hK.o (.string (fT (ds.map Dm.dv) xd xi)) _ _ (by kernel_rfl) rfl hb
        refine bf.cons (i:=4) rfl (fun u W1 hSW hJW hpre K hK=>?_) ?_
        · dsimp only [bL,List.foldl];have e0:u 3= .string (fT (ds.map Dm.dv) xd xi):=hpre 3 rfl (by kernel_rfl);rw [← dQ e0] at hK;go_simp;exact hK.o (.slice (some ⟨W1.heap.size,0,none⟩) 1 1) _ _ (by kernel_rfl) ⟨W1.heap.size,rfl,Fb W1 (fT (ds.map Dm.dv) xd xi)⟩ ((Below.refl _ _).alloc (Nat.le_refl _) _)
        exact bf.nil
      case fin=>
      intro u W1 hHeld hJ hV;dsimp only [bL,List.foldl];have e0:u 0=v:=hV 0 rfl;obtain ⟨g4,e4,h4⟩:∃ g:Nat,u 4= .slice (some ⟨g,0,none⟩) 1 1∧cz W1 W1.heap.size (some ⟨g,0,none⟩) [fT (ds.map Dm.dv) xd xi]:=hV 4 rfl;simp only [e0,e4];have RW:=Hd h4;have HJ:=Hd hJ;clear h4 e0 e4 hV hJ J0;have HLN:=Hd (show (lu (ds.map Dm.dv) pre).length+1≤1000000 by
        have h1:(lu (ds.map Dm.dv) pre).length≤pre.length:=(by unfold lu;rw [List.length_map];exact List.length_filter_le _ _);have:=HLEN.o;omega)
      refine rdy1 5 (fun K hK=>?_);refine fq (by rfl) (.tmp 42) (.tmp 46) (by rfl) (G+3) v (lu (ds.map Dm.dv) pre) (by rfl) HJ.o.2.1 W1.heap.size (some ⟨g4,0,none⟩) 1 1 [fT (ds.map Dm.dv) xd xi] (by rfl) (by rfl) RW.o HLN.o (by have:=HJ.o.2.2.size;omega) ?_;intro v5 w5 ho5 hg5 EU;have OS:=Hd (qG HJ.o.2.1);have hh:=And.intro (hHeld.1.grown hg5 (ay OS.o hHeld.1 (by decide))) (hHeld.2.grown hg5 (ay OS.o hHeld.2 (by decide)));have G5:=Hd (HJ.o.1.grown hg5 (ay OS.o HJ.o.1 (by decide)));have HG5:=Hd hg5;have hoc:=ho5;obtain ⟨A5,c5,rfl,_⟩:=ho5.strs;have O5:=Hd hoc;generalize hl5:(lu (ds.map Dm.dv) pre ++ [fT (ds.map Dm.dv) xd xi]).length=l5 at *;clear hl5 hoc hg5 EU ho5;refine hK.o _ _ hh (fun hHeld=>?_);clear hK K hh;have c0:=G5.o.cell 0;have f0:=G5.o.free 0;refine rdy1 6 (fun K hK=>?_);have hh:=And.intro (hHeld.1.af (p:=⟨G,0,none⟩) (.slice A5 l5 c5) (by show H≠G;omega)) (hHeld.2.af (p:=⟨G,0,none⟩) (.slice A5 l5 c5) (by show g≠G;omega));go_simp;refine hK.o _ _ hh (fun hHeld=>?_);clear hK K hh c0 f0;refine wpAnyH_done (by kernel_rfl) ?_ _;have HKO:=Hd (show KeepsOthers W w5 from (KeepsOthers.trans ⟨HJ.o.2.2.size,fun q o hq _=>(HJ.o.2.2.block q (Array.getElem?_eq_some_iff.1 hq).1).trans hq⟩ (KeepsOthers.of_grownBy HG5.o (Cu HJ.o.2.1))));have HB5:=Hd (show Below H W w5 from (HJ.o.2.2.mono (by have:=HI.o.hG;have:=HI.o.V.lt;omega)).grown HG5.o (by have:=HJ.o.1.lt;omega) (fun q e=>by have:=(World.ownsRow.lt HJ.o.2.1 q e).1;omega));go_wp2_with fail;refine ⟨HKO.o.trans (KeepsOthers.setCell _ _ _),⟨HB5.o.setCell (p:=⟨G,0,none⟩) (by show H≤G;omega) _,fun b hb t cs ht hq=>?_⟩,(HI.o.low.trans HB5.o).setCell (p:=⟨G,0,none⟩) (by show H≤G;omega) _,hHeld.1,?_,?_,⟨_,G5.o.put 0 _,?_⟩,HNO.o,HI.o.hG⟩
      · have q1:=hq.keep HJ.o.2.2 hq.lt;exact (q1.grown HG5.o (ay OS.o q1 (fun e=>ht e.symm))).af _ (by show b≠G;omega)
      · have q1:=HI.o.R1.keep HJ.o.2.2 HI.o.R1.lt;exact (q1.grown HG5.o (fun e=>by have:=(World.ownsRow.lt HJ.o.2.1 _ e).1;omega)).af _ (by show H+2≠G;omega)
      · have q1:=HI.o.R2.keep HJ.o.2.2 HI.o.R2.lt;exact (q1.grown HG5.o (fun e=>by have:=(World.ownsRow.lt HJ.o.2.1 _ e).1;omega)).af _ (by show H+3≠G;omega)
      · rw [xH,uI _ HXI.o];exact bF.TW O5.o G5.o (by decide) _
 case done=>
  rintro D xs W hD rfl hI hK;exact absurd rfl (hI.no (0,1) (by simp))
 case stop=>
  rintro D c pre W hD ⟨rest,hS⟩ hI hK;obtain ⟨q,rfl,hq,r1⟩:=hI.ans;have r2:=hI.R2;have hlow:=hI.low;obtain rfl:=hI.ret;obtain rfl:q=l0:=pI hq hl0 hS;have HLT:=Hd hL;clear hI hS
  gi_wp2
  obtain ⟨d1,d2⟩:=yC r1 r2 (show H+4≤D by omega);refine ⟨by simp, .inl ⟨_,_,rfl,run_takeDeferred hK,?_⟩⟩;refine ⟨.tuple #[.string (jO (lu (ds.map Dm.dv) q).reverse), .bool true],by simp [results,Tryz.results49,go_sem,d1,d2],by rw [HLT.o],?_⟩;rw [hH];exact hlow.trans (j6 W _ (by omega) (Array.getElem?_eq_some_iff.1 hK).1)
end Go.Proofs.YtollifnnpihfdaaGreatDoor
