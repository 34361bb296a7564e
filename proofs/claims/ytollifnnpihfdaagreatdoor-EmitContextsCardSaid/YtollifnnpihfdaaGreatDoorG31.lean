import Derived.Test.YtollifnnpihfdaaGreatDoorG30
import Derived.Test.YtollifnnpihfdaaGreatDoorG25
set_option maxRecDepth 100000
set_option maxHeartbeats 64000000
set_option linter.all false
namespace Go.Proofs.YtollifnnpihfdaaGreatDoor
open Go.RowKit
theorem ig.uni {R:List Dv→List Chg→Prop} {w w' :World} {e:Ending} (h:ig R w e w'):∃ (A:Option Addr) (n c:Nat) (v:Value) (ke:Int),e= .returned (.tuple #[fsV A n c,v, .int .i64 ke])∧Below w.heap.size w w' ∧(ke≠0∨∃ ds cs,aC w' w.heap.size (.slice A n c) ds∧R (ds.map Dm.dv) cs):=by
 obtain ⟨h1,⟨k,hk,rfl⟩ | ⟨A,n,c,ds,v,cs,_,rfl,h2,_,h3⟩⟩:=h
 · exact ⟨none,0,0,_,k,rfl,h1, .inl hk⟩
 · exact ⟨A,n,c,v,0,rfl,h1, .inr ⟨ds,cs,h2,h3⟩⟩
theorem nk.uni {R:List Dv→Prop} {w w' :World} {e:Ending} (h:nk R w e w'):∃ (A:Option Addr) (n c:Nat) (ke:Int),e= .returned (.tuple #[fsV A n c, .int .i64 ke])∧Below w.heap.size w w' ∧(ke≠0∨∃ ds,aC w' w.heap.size (.slice A n c) ds∧R (ds.map Dm.dv)):=by
 obtain ⟨h1,⟨k,hk,rfl⟩ | ⟨A,n,c,ds,_,rfl,h2,h3⟩⟩:=h
 · exact ⟨none,0,0,k,rfl,h1, .inl hk⟩
 · exact ⟨A,n,c,0,rfl,h1, .inr ⟨ds,h2,h3⟩⟩
structure ChF (w wr:World) (base g:Nat) (b:Int) (lo:Nat) (A:Option Addr) (n c:Nat) (ds:List Dm) (gd go:Nat) (d i:Int):Prop where
 f:SfF w wr base g b lo A n c ds
 V:Blk wr w.heap.size 28 #[.slice A n c]
 R:Blk wr (w.heap.size+1) 28 #[.slice none 0 0]
 U:Blk wr gd 44 #[.int .i64 d, .int .i64 i]
 O:∃ (Ao:Option Addr) (no co:Nat),Blk wr go 28 #[.slice Ao no co]
 h1:g < w.heap.size
 h2:w.heap.size+1 < gd
 h3:gd < go
section
variable {w wr w' :World} {base g lo n c gd go:Nat} {b b' :Int} {A:Option Addr} {ds:List Dm} {d i:Int}
theorem ChF.step (h:ChF w wr base g b lo A n c ds gd go d i) (hg:wr.grownBy w' (some g)) (hs:aB w' base g b'):ChF w w' base g b' lo A n c ds gd go d i:=by
 obtain ⟨Ao,no,co,ho⟩:=h.O;have h1:=h.h1;have h2:=h.h2;have h3:=h.h3;exact ⟨h.f.grow hg hs,h.V.src hg (by omega),h.R.src hg (by omega),h.U.src hg (by omega),⟨Ao,no,co,ho.src hg (by omega)⟩,h1,h2,h3⟩
theorem ChF.below (h:ChF w wr base g b lo A n c ds gd go d i) (hb:Below wr.heap.size wr w'):ChF w w' base g b lo A n c ds gd go d i:=by
 obtain ⟨Ao,no,co,ho⟩:=h.O;exact ⟨h.f.below hb,h.V.below hb,h.R.below hb,h.U.below hb,⟨Ao,no,co,ho.below hb⟩,h.h1,h.h2,h.h3⟩
theorem ChF.more (h:ChF w wr base g b lo A n c ds gd go d i) (hb:b≤b'):ChF w wr base g b' lo A n c ds gd go d i:=⟨h.f.more hb,h.V,h.R,h.U,h.O,h.h1,h.h2,h.h3⟩
theorem ChF.put (h:ChF w wr base g b lo A n c ds gd go d i) (Ao:Option Addr) (no co:Nat):ChF w (wr.setCell ⟨go,0,none⟩ (.slice Ao no co)) base g b lo A n c ds gd go d i:=by
 obtain ⟨_,_,_,ho⟩:=h.O;have h1:=h.h1;have h2:=h.h2;have h3:=h.h3;exact ⟨h.f.cell (by omega) (by omega) 0 _,h.V.af _ (by show w.heap.size≠go;omega),h.R.af _ (by show w.heap.size+1≠go;omega),h.U.af _ (by show gd≠go;omega),⟨Ao,no,co,ho.put 0 _⟩,h1,h2,h3⟩
def ChJ (w wx:World) (base g:Nat) (b:Int) (lo:Nat) (A:Option Addr) (n c:Nat) (ds:List Dm) (gd go:Nat) (d i:Int) (v:Value):Prop:=
 ∃ ke:Int,v= .int .i64 ke∧ChF w wx base g b lo A n c ds gd go d i∧(ke≠0∨∃ (Ao:Option Addr) (no co:Nat) (dso:List Dm),Blk wx go 28 #[.slice Ao no co]∧aC wx lo (.slice Ao no co) dso∧FOk (dso.map Dm.dv))
theorem ChF.meet (h:ChF w wr base g b lo A n c ds gd go d i) {W:World} {Ao:Option Addr} {no co:Nat} {ke:Int} (hW:w.heap.size≤W.heap.size) (hgo:go < W.heap.size) (hb:b≤b')
   (ho:ke≠0∨∃ dso,aC wr W.heap.size (.slice Ao no co) dso∧FOk (dso.map Dm.dv)):ChJ w (wr.setCell ⟨go,0,none⟩ (.slice Ao no co)) base g b' lo A n c ds gd go d i (.int .i64 ke):=by
 obtain ⟨_,_,_,hob⟩:=h.O;refine ⟨ke,rfl,(h.put Ao no co).more hb,?_⟩;rcases ho with h0 | ⟨dso,h0,h1⟩
 · exact .inl h0
 · have hlo:=h.f.hlo;exact .inr ⟨Ao,no,co,dso,hob.put 0 _,(h0.far (aL wr go 0 _) (fun q e=>by injection e with e;subst e;exact h0.old hgo)).low (by omega),h1⟩
end
def KW (w:World) (base g:Nat) (b:Int) (lo:Nat) (e:Ending) (w' :World):Prop:=∃ (A:Option Addr) (n c:Nat) (ds:List Dm),e= .returned (fsV A n c)∧aC w' lo (.slice A n c) ds∧FOk (ds.map Dm.dv)∧aB w' base g b∧w.grownBy w' (some g)
theorem yg (w:World) (base g:Nat) (b:Int) (h:aB w base g b) (hb:b≤100000000000) (lo:Nat) (A:Option Addr) (n c:Nat) (ds:List Dm) (hf:aC w lo (.slice A n c) ds) (hg:g < lo) (hlo:lo≤w.heap.size) (hok:FOk (ds.map Dm.dv)):
  Calls Tryz.prog 105 #[.pointer (some ⟨g,0,none⟩),fsV A n c] w (KW w base g (b+100) lo):=by
 have HB:=Hd hb;have HOK:=Hd hok;have HGW:=Hd (aW h);have HN:=Hd hf.mi.2;have HLO:=Hd hlo;have HGL:=Hd hg;have S0:=Hd (show SfF w ((w.alloc (.cells #[.slice A n c] 28)).alloc (.cells #[.slice none 0 0] 28)) base g b lo A n c ds from ((⟨h,World.grownBy.refl w _,hf,hf,hg,hlo⟩:SfF w w base g b lo A n c ds).alloc _).alloc _);have V0:=Hd ((Blk.new w #[.slice A n c] 28).alloc (.cells #[.slice none 0 0] 28));have R0:=Hd (show Blk ((w.alloc (.cells #[.slice A n c] 28)).alloc (.cells #[.slice none 0 0] 28)) (w.heap.size+1) 28 #[.slice none 0 0] by
  have h:=Blk.new (w.alloc (.cells #[.slice A n c] 28)) #[.slice none 0 0] 28;simp only [World.size_alloc] at h;exact h)
 clear h hb hf hg hlo hok;go_in;go_upto_region 1 with fail;generalize (w.alloc (.cells #[.slice A n c] 28)).alloc (.cells #[.slice none 0 0] 28)=w0 at *;have v0:=V0.o.cell 0;go_wp2_with fail;clear v0;refine (iK w0 base g b S0.o.src (by have:=HB.o;omega) lo A n c ds S0.o.fil HGL.o (by have:=S0.o.only.size;have:=HLO.o;omega) HOK.o).mono ?_;rintro e w1 ⟨d,i,rfl,hs,hgr⟩;have hgw:=HGW.o;have S1:=Hd (S0.o.grow hgr hs);have V1:=Hd (V0.o.src hgr (by omega));have R1:=Hd (R0.o.src hgr (by omega));clear hs hgr S0 V0 R0;go_wp2_with fail;refine (lY w1 base g (b+4) S1.o.src (by have:=HB.o;omega)).mono ?_;rintro e w2 ⟨nm,rfl,hnm,hs,hgr⟩;have HNM:=Hd (show nm.size≤1000 by omega);have S2:=Hd (S1.o.grow hgr hs);have V2:=Hd (V1.o.src hgr (by omega));have R2:=Hd (R1.o.src hgr (by omega));clear hs hgr hnm S1 V1 R1;have S3:=Hd (S2.o.alloc (.cells #[.int .i64 d, .int .i64 i] 44));have V3:=Hd (V2.o.alloc (.cells #[.int .i64 d, .int .i64 i] 44));have R3:=Hd (R2.o.alloc (.cells #[.int .i64 d, .int .i64 i] 44));have U3:=Hd (Blk.new w2 #[.int .i64 d, .int .i64 i] 44);have hr2:=R2.o.lt;clear S2 V2 R2;go_upto_region 2 with fail;generalize hw3:w2.alloc (.cells #[.int .i64 d, .int .i64 i] 44)=w3 at *;clear hw3;have v0:=V3.o.cell 0;have C4:=Hd (show ChF w (w3.alloc (.cells #[.slice A n c] 28)) base g (b+4+2) lo A n c ds w2.heap.size w3.heap.size d i from ⟨S3.o.alloc _,V3.o.alloc _,R3.o.alloc _,U3.o.alloc _,⟨A,n,c,Blk.new w3 _ _⟩,hgw,hr2,U3.o.lt⟩);have hg3:=U3.o.lt;have HG4:=Hd (show w3.heap.size < (w3.alloc (.cells #[.slice A n c] 28)).heap.size by simp);clear S3 V3 R3 U3;go_upto_region 3 with fail;clear v0;generalize w3.alloc (.cells #[.slice A n c] 28)=w4 at *;go_wp2_with fail;refine (bG w4 base g _ 8 C4.o.f.src (by have:=HB.o;omega) (by omega) (by omega)).mono ?_;rintro e w5 ⟨x,rfl,x0,x1,hs,hgr⟩;have C5:=Hd (C4.o.step hgr hs);have HG5:=Hd (Nat.lt_of_lt_of_le HG4.o hgr.size);clear hs hgr C4 HG4;go_upto_block 0 with fail;go_cut [8] (fun v wx=>ChJ w wx base g (b+100) lo A n c ds w2.heap.size w3.heap.size d i v);case first=>
  have hx:x=0∨x=1∨x=2∨x=3∨x=4∨4 < x:=by omega
  clear x0 x1;rcases hx with rfl | rfl | rfl | rfl | rfl | hx
  · go_upto_region 6 with fail;refine wp_region_held_drew (S:=(fun W=>Blk W w.heap.size 28 #[.slice A n c]∧Blk W w2.heap.size 44 #[.int .i64 d, .int .i64 i])) (by kernel_rfl) ⟨C5.o.V,C5.o.U⟩ (fun hHeld=>?_);have C5:=Hd (C5.o.below (Below.refl w5.heap.size w5).drew);generalize w5.drew=w5 at *;refine tk hHeld 0 ?_ ?_ (tk hHeld 1 ?_ ?_ (tk hHeld 2 ?_ ?_ (tk hHeld 3 ?_ ?_ (tk hHeld 4 ?_ ?_ ?_))));iterate 5
      rotate_left
      · intro W hSw;obtain ⟨z0,z1⟩:=hSw;have v0:=z0.cell 0;have u0:=z1.cell 0;have u1:=z1.cell 1;go_simp;try (with_reducible rfl)
    refine rdy1 5 (fun K hK=>?_);go_simp;go_at_call 22;refine (iK w5 base g _ C5.o.f.src (by have:=HB.o;omega) lo A n c ds C5.o.f.fil HGL.o (by have:=C5.o.f.only.size;have:=HLO.o;omega) HOK.o).mono ?_;rintro e w6 ⟨d2,i2,rfl,hs,hgr⟩;have C6:=Hd (C5.o.step hgr hs);clear hs hgr C5;go_simp;refine hK.o _ _ ⟨C6.o.V,C6.o.U⟩ (fun hHeld=>?_);clear hK K;refine rdy1 6 (fun K hK=>?_);go_simp;go_at_call 163;refine (KF d i d2 i2 nm HNM.o ds A n c HN.o HOK.o w6 (show bR w6 w6.heap.size A ds from C6.o.f.fil.mi.1)).mono ?_;intro e w7 hp;obtain ⟨Ao,no,co,vv,ke,rfl,hbl,ho⟩:=ig.uni hp;have C7:=Hd (C6.o.below hbl);have HO:=Hd (show ke≠0∨∃ dso,aC w7 w6.heap.size (.slice Ao no co) dso∧FOk (dso.map Dm.dv) from by
      rcases ho with ho | ⟨dso,cso,ho1,ho2⟩
      · exact .inl ho
      · exact .inr ⟨dso,ho1,HOK.o.link ho2.1⟩)
    have HS:=Hd (show w.heap.size≤w6.heap.size∧w3.heap.size < w6.heap.size from ⟨C6.o.f.only.size,by obtain ⟨_,_,_,h9⟩:=C6.o.O;exact h9.lt⟩);clear hp hbl ho C6;go_simp;refine hK.o _ _ ⟨C7.o.V,C7.o.U⟩ (fun hHeld=>?_);clear hK K;refine tk hHeld 7 ?_ ?_ (tk hHeld 8 ?_ ?_ (tk hHeld 9 ?_ ?_ (tk hHeld 10 ?_ ?_ ?_)));iterate 4
      rotate_left
      · intro W hSw;go_simp;try (with_reducible rfl)
    obtain ⟨A9,n9,c9,hob⟩:=C7.o.O;have o0:=hob.cell 0;have of:=hob.free 0;have hh2:∀ u:Value,Blk (w7.setCell ⟨w3.heap.size,0,none⟩ u) w.heap.size 28 #[.slice A n c]∧Blk (w7.setCell ⟨w3.heap.size,0,none⟩ u) w2.heap.size 44 #[.int .i64 d, .int .i64 i]:=fun u=>⟨C7.o.V.af _ (by show w.heap.size≠w3.heap.size;omega),C7.o.U.af _ (by show w2.heap.size≠w3.heap.size;omega)⟩;refine rdy1 11 (fun K hK=>?_);go_simp;refine hK.o _ _ (hh2 _) (fun hHeld=>?_);clear hK K;clear hh2 o0 of;refine tk hHeld 12 ?_ ?_ ?_;rotate_left
    · intro W hSw;go_simp;try (with_reducible rfl)
    refine wpAnyH_done (by kernel_rfl) ?_ _;go_wp2_with fail;go_meet;exact (C7.o).meet (W:=w6) HS.o.1 HS.o.2 (by omega) HO.o
  · have v0:=C5.o.V.cell 0;have u0:=C5.o.U.cell 0;have u1:=C5.o.U.cell 1;go_wp2_with fail;clear v0 u0 u1;refine (Ee d i nm HNM.o ds A n c HN.o HOK.o w5 (show bR w5 w5.heap.size A ds from C5.o.f.fil.mi.1)).mono ?_;intro e w6 hp;obtain ⟨Ao,no,co,vv,ke,rfl,hbl,ho⟩:=ig.uni hp;have C6:=Hd (C5.o.below hbl);have HO:=Hd (show ke≠0∨∃ dso,aC w6 w5.heap.size (.slice Ao no co) dso∧FOk (dso.map Dm.dv) from by
      rcases ho with ho | ⟨dso,cso,ho1,ho2⟩
      · exact .inl ho
      · exact .inr ⟨dso,ho1,(by obtain ⟨⟨t,hr⟩,_⟩:=ho2;exact HOK.o.unlink hr)⟩)
    have HS:=Hd (show w.heap.size≤w5.heap.size∧w3.heap.size < w5.heap.size from ⟨C5.o.f.only.size,by obtain ⟨_,_,_,h9⟩:=C5.o.O;exact h9.lt⟩);clear hp hbl ho C5;obtain ⟨A9,n9,c9,hob⟩:=C6.o.O;have o0:=hob.cell 0;have of:=hob.free 0;go_wp2_with fail;go_meet;exact (C6.o).meet (W:=w5) HS.o.1 HS.o.2 (by omega) HO.o
  · have v0:=C5.o.V.cell 0;have u0:=C5.o.U.cell 0;have u1:=C5.o.U.cell 1;go_wp2_with fail;clear v0 u0 u1;refine (H9 d i nm HNM.o ds A n c HN.o HOK.o w5 (show bR w5 w5.heap.size A ds from C5.o.f.fil.mi.1)).mono ?_;intro e w6 hp;obtain ⟨Ao,no,co,vv,ke,rfl,hbl,ho⟩:=ig.uni hp;have C6:=Hd (C5.o.below hbl);have HO:=Hd (show ke≠0∨∃ dso,aC w6 w5.heap.size (.slice Ao no co) dso∧FOk (dso.map Dm.dv) from by
      rcases ho with ho | ⟨dso,cso,ho1,ho2⟩
      · exact .inl ho
      · exact .inr ⟨dso,ho1,(by obtain ⟨⟨t,hr⟩,_⟩:=ho2;exact HOK.o.unlink hr)⟩)
    have HS:=Hd (show w.heap.size≤w5.heap.size∧w3.heap.size < w5.heap.size from ⟨C5.o.f.only.size,by obtain ⟨_,_,_,h9⟩:=C5.o.O;exact h9.lt⟩);clear hp hbl ho C5;obtain ⟨A9,n9,c9,hob⟩:=C6.o.O;have o0:=hob.cell 0;have of:=hob.free 0;go_wp2_with fail;go_meet;exact (C6.o).meet (W:=w5) HS.o.1 HS.o.2 (by omega) HO.o
  · go_upto_region 12 with fail;refine wp_region_held_drew (S:=(fun W=>Blk W w.heap.size 28 #[.slice A n c]∧Blk W w2.heap.size 44 #[.int .i64 d, .int .i64 i])) (by kernel_rfl) ⟨C5.o.V,C5.o.U⟩ (fun hHeld=>?_);have C5:=Hd (C5.o.below (Below.refl w5.heap.size w5).drew);generalize w5.drew=w5 at *;refine tk hHeld 0 ?_ ?_ (tk hHeld 1 ?_ ?_ (tk hHeld 2 ?_ ?_ (tk hHeld 3 ?_ ?_ (tk hHeld 4 ?_ ?_ (tk hHeld 6 ?_ ?_ ?_)))));iterate 6
      rotate_left
      · intro W hSw;obtain ⟨z0,z1⟩:=hSw;have v0:=z0.cell 0;have u0:=z1.cell 0;have u1:=z1.cell 1;go_simp;try (with_reducible rfl)
    refine rdy1 5 (fun K hK=>?_);go_simp;go_at_call 22;refine (iK w5 base g _ C5.o.f.src (by have:=HB.o;omega) lo A n c ds C5.o.f.fil HGL.o (by have:=C5.o.f.only.size;have:=HLO.o;omega) HOK.o).mono ?_;rintro e w6 ⟨d2,i2,rfl,hs,hgr⟩;have C6:=Hd (C5.o.step hgr hs);clear hs hgr C5;go_simp;refine hK.o _ _ ⟨C6.o.V,C6.o.U⟩ (fun hHeld=>?_);clear hK K;refine rdy1 7 (fun K hK=>?_);go_simp;go_at_call 108;refine (lY w6 base g _ C6.o.f.src (by have:=HB.o;omega)).mono ?_;rintro e w7 ⟨nm2,rfl,Ku,hs,hgr⟩;have Tp:=Hd (show nm2.size≤1000 by omega);have C7:=Hd (C6.o.step hgr hs);clear hs hgr C6 Ku;go_simp;refine hK.o _ _ ⟨C7.o.V,C7.o.U⟩ (fun hHeld=>?_);clear hK K;refine rdy1 8 (fun K hK=>?_);go_simp;go_at_call 166;refine (Eg d i nm HNM.o d2 i2 nm2 Tp.o ds A n c HN.o HOK.o w7 (show bR w7 w7.heap.size A ds from C7.o.f.fil.mi.1)).mono ?_;intro e w8 hp;obtain ⟨Ao,no,co,vv,ke,rfl,hbl,ho⟩:=ig.uni hp;have C8:=Hd (C7.o.below hbl);have HO:=Hd (show ke≠0∨∃ dso,aC w8 w7.heap.size (.slice Ao no co) dso∧FOk (dso.map Dm.dv) from by
      rcases ho with ho | ⟨dso,cso,ho1,ho2⟩
      · exact .inl ho
      · exact .inr ⟨dso,ho1,(by obtain ⟨⟨_,t,hr⟩,_⟩:=ho2;exact HOK.o.rename hr)⟩)
    have HS:=Hd (show w.heap.size≤w7.heap.size∧w3.heap.size < w7.heap.size from ⟨C7.o.f.only.size,by obtain ⟨_,_,_,h9⟩:=C7.o.O;exact h9.lt⟩);clear hp hbl ho C7;go_simp;refine hK.o _ _ ⟨C8.o.V,C8.o.U⟩ (fun hHeld=>?_);clear hK K;refine tk hHeld 9 ?_ ?_ (tk hHeld 10 ?_ ?_ (tk hHeld 11 ?_ ?_ (tk hHeld 12 ?_ ?_ ?_)));iterate 4
      rotate_left
      · intro W hSw;go_simp;try (with_reducible rfl)
    obtain ⟨A9,n9,c9,hob⟩:=C8.o.O;have o0:=hob.cell 0;have of:=hob.free 0;have hh2:∀ u:Value,Blk (w8.setCell ⟨w3.heap.size,0,none⟩ u) w.heap.size 28 #[.slice A n c]∧Blk (w8.setCell ⟨w3.heap.size,0,none⟩ u) w2.heap.size 44 #[.int .i64 d, .int .i64 i]:=fun u=>⟨C8.o.V.af _ (by show w.heap.size≠w3.heap.size;omega),C8.o.U.af _ (by show w2.heap.size≠w3.heap.size;omega)⟩;refine rdy1 13 (fun K hK=>?_);go_simp;refine hK.o _ _ (hh2 _) (fun hHeld=>?_);clear hK K;clear hh2 o0 of;refine tk hHeld 14 ?_ ?_ ?_;rotate_left
    · intro W hSw;go_simp;try (with_reducible rfl)
    refine wpAnyH_done (by kernel_rfl) ?_ _;go_wp2_with fail;go_meet;exact (C8.o).meet (W:=w7) HS.o.1 HS.o.2 (by omega) HO.o
  · go_upto_region 14 with fail;refine wp_region_held_drew (S:=(fun W=>Blk W w.heap.size 28 #[.slice A n c]∧Blk W w2.heap.size 44 #[.int .i64 d, .int .i64 i])) (by kernel_rfl) ⟨C5.o.V,C5.o.U⟩ (fun hHeld=>?_);have C5:=Hd (C5.o.below (Below.refl w5.heap.size w5).drew);generalize w5.drew=w5 at *;refine tk hHeld 0 ?_ ?_ (tk hHeld 1 ?_ ?_ (tk hHeld 2 ?_ ?_ (tk hHeld 4 ?_ ?_ ?_)));iterate 4
      rotate_left
      · intro W hSw;obtain ⟨z0,z1⟩:=hSw;have v0:=z0.cell 0;have u0:=z1.cell 0;have u1:=z1.cell 1;go_simp;try (with_reducible rfl)
    refine rdy1 3 (fun K hK=>?_);go_simp;go_at_call 14;refine (bG w5 base g _ 9 C5.o.f.src (by have:=HB.o;omega) (by omega) (by omega)).mono ?_;rintro e w6 ⟨ui,rfl,_,_,hs,hgr⟩;have C6:=Hd (C5.o.step hgr hs);clear hs hgr C5;go_simp;refine hK.o _ _ ⟨C6.o.V,C6.o.U⟩ (fun hHeld=>?_);clear hK K;refine rdy1 5 (fun K hK=>?_);go_simp;go_at_call 14;refine (bG w6 base g _ 9 C6.o.f.src (by have:=HB.o;omega) (by omega) (by omega)).mono ?_;rintro e w7 ⟨gi,rfl,_,_,hs,hgr⟩;have C7:=Hd (C6.o.step hgr hs);clear hs hgr C6;go_simp;refine hK.o _ _ ⟨C7.o.V,C7.o.U⟩ (fun hHeld=>?_);clear hK K;refine rdy1 6 (fun K hK=>?_);go_simp;go_at_call 167;refine (Pk d i 511 ui gi ds A n c HN.o HOK.o w7 (show bR w7 w7.heap.size A ds from C7.o.f.fil.mi.1)).mono ?_;intro e w8 hp;obtain ⟨Ao,no,co,ke,rfl,hbl,ho⟩:=nk.uni hp;have C8:=Hd (C7.o.below hbl);have HO:=Hd (show ke≠0∨∃ dso,aC w8 w7.heap.size (.slice Ao no co) dso∧FOk (dso.map Dm.dv) from by
      rcases ho with ho | ⟨dso,ho1,ho2⟩
      · exact .inl ho
      · exact .inr ⟨dso,ho1,HOK.o.nR ho2⟩)
    have HS:=Hd (show w.heap.size≤w7.heap.size∧w3.heap.size < w7.heap.size from ⟨C7.o.f.only.size,by obtain ⟨_,_,_,h9⟩:=C7.o.O;exact h9.lt⟩);clear hp hbl ho C7;go_simp;refine hK.o _ _ ⟨C8.o.V,C8.o.U⟩ (fun hHeld=>?_);clear hK K;refine tk hHeld 7 ?_ ?_ (tk hHeld 8 ?_ ?_ (tk hHeld 9 ?_ ?_ ?_));iterate 3
      rotate_left
      · intro W hSw;go_simp;try (with_reducible rfl)
    obtain ⟨A9,n9,c9,hob⟩:=C8.o.O;have o0:=hob.cell 0;have of:=hob.free 0;have hh2:∀ u:Value,Blk (w8.setCell ⟨w3.heap.size,0,none⟩ u) w.heap.size 28 #[.slice A n c]∧Blk (w8.setCell ⟨w3.heap.size,0,none⟩ u) w2.heap.size 44 #[.int .i64 d, .int .i64 i]:=fun u=>⟨C8.o.V.af _ (by show w.heap.size≠w3.heap.size;omega),C8.o.U.af _ (by show w2.heap.size≠w3.heap.size;omega)⟩;refine rdy1 10 (fun K hK=>?_);go_simp;refine hK.o _ _ (hh2 _) (fun hHeld=>?_);clear hK K;clear hh2 o0 of;refine tk hHeld 11 ?_ ?_ ?_;rotate_left
    · intro W hSw;go_simp;try (with_reducible rfl)
    refine wpAnyH_done (by kernel_rfl) ?_ _;go_wp2_with fail;go_meet;exact (C8.o).meet (W:=w7) HS.o.1 HS.o.2 (by omega) HO.o
  · have n0:=(bT (show x≠0 by omega)).1;have n1:=(bT (show x≠1 by omega)).1;have n2:=(bT (show x≠2 by omega)).1;have n3:=(bT (show x≠3 by omega)).1;have n4:=(bT (show x≠4 by omega)).1;clear hx;go_upto_region 4 with fail;refine wp_region_held_drew (S:=(fun W=>Blk W w.heap.size 28 #[.slice A n c]∧Blk W w2.heap.size 44 #[.int .i64 d, .int .i64 i])) (by kernel_rfl) ⟨C5.o.V,C5.o.U⟩ (fun hHeld=>?_);have C5:=Hd (C5.o.below (Below.refl w5.heap.size w5).drew);generalize w5.drew=w5 at *;refine tk hHeld 0 ?_ ?_ (tk hHeld 1 ?_ ?_ (tk hHeld 2 ?_ ?_ (tk hHeld 3 ?_ ?_ ?_)));iterate 4
      rotate_left
      · intro W hSw;obtain ⟨z0,z1⟩:=hSw;have v0:=z0.cell 0;have u0:=z1.cell 0;have u1:=z1.cell 1;go_simp;try (with_reducible rfl)
    refine rdy1 4 (fun K hK=>?_);go_simp;go_at_call 169;refine (Ed w5 base g _ C5.o.f.src (by have:=HB.o;omega)).mono ?_;rintro e w6 ⟨xn,rfl,hxt,hs,hgr⟩;have C6:=Hd (C5.o.step hgr hs);have HXT:=Hd (show xn.tg.size≤maxLen by unfold maxLen;omega);clear hs hgr C5 hxt;go_simp;refine hK.o _ _ ⟨C6.o.V,C6.o.U⟩ (fun hHeld=>?_);clear hK K;refine rdy1 5 (fun K hK=>?_);go_simp;go_at_call 168;refine (KR d i nm HNM.o xn none 0 0 HXT.o ds A n c HN.o HOK.o w6 (show bR w6 w6.heap.size A ds from C6.o.f.fil.mi.1)).mono ?_;intro e w7 hp;obtain ⟨Ao,no,co,vv,ke,rfl,hbl,ho⟩:=ig.uni hp;have C7:=Hd (C6.o.below hbl);have HO:=Hd (show ke≠0∨∃ dso,aC w7 w6.heap.size (.slice Ao no co) dso∧FOk (dso.map Dm.dv) from by
      rcases ho with ho | ⟨dso,cso,ho1,ho2⟩
      · exact .inl ho
      · exact .inr ⟨dso,ho1,HOK.o.make ho2.1⟩)
    have HS:=Hd (show w.heap.size≤w6.heap.size∧w3.heap.size < w6.heap.size from ⟨C6.o.f.only.size,by obtain ⟨_,_,_,h9⟩:=C6.o.O;exact h9.lt⟩);clear hp hbl ho C6;go_simp;refine hK.o _ _ ⟨C7.o.V,C7.o.U⟩ (fun hHeld=>?_);clear hK K;refine tk hHeld 6 ?_ ?_ (tk hHeld 7 ?_ ?_ (tk hHeld 8 ?_ ?_ (tk hHeld 9 ?_ ?_ ?_)));iterate 4
      rotate_left
      · intro W hSw;go_simp;try (with_reducible rfl)
    obtain ⟨A9,n9,c9,hob⟩:=C7.o.O;have o0:=hob.cell 0;have of:=hob.free 0;have hh2:∀ u:Value,Blk (w7.setCell ⟨w3.heap.size,0,none⟩ u) w.heap.size 28 #[.slice A n c]∧Blk (w7.setCell ⟨w3.heap.size,0,none⟩ u) w2.heap.size 44 #[.int .i64 d, .int .i64 i]:=fun u=>⟨C7.o.V.af _ (by show w.heap.size≠w3.heap.size;omega),C7.o.U.af _ (by show w2.heap.size≠w3.heap.size;omega)⟩;refine rdy1 10 (fun K hK=>?_);go_simp;refine hK.o _ _ (hh2 _) (fun hHeld=>?_);clear hK K;clear hh2 o0 of;refine tk hHeld 11 ?_ ?_ ?_;rotate_left
    · intro W hSw;go_simp;try (with_reducible rfl)
    refine wpAnyH_done (by kernel_rfl) ?_ _;go_wp2_with fail;go_meet;exact (C7.o).meet (W:=w6) HS.o.1 HS.o.2 (by omega) HO.o
 case rest=>
  obtain ⟨ke,rfl,hC,hO⟩:=hcut;have C9:=Hd hC;clear hC C5 HG5;by_cases hk:ke=0;case pos=>
    subst hk;rcases hO with h0 | ⟨Ao,no,co,dso,hob,hfo,hfk⟩
    · exact absurd rfl h0
    · have HOB:=Hd hob;have HFO:=Hd hfo;have HFK:=Hd hfk;clear hob hfo hfk;have o0:=HOB.o.cell 0;go_wp2_with ((with_reducible refine ae ?_ 28 (.tmp 4) (.tmp 90) ?_ C9.o.R #[.slice Ao no co] ?_ ?_ ?_ ?_ ?_ ?_);(iterate 4 rfl);(exact bS _);rfl;(exact bu _ _ _));refine bodyPost_ret (wM (fn:=Tryz.f105) rfl _ _ (w.heap.size+1) (.slice Ao no co) rfl (Blk.row C9.o.R _)) rfl ?_;have h1:=C9.o.h1;have hgx:=C9.o.f.row (k:=w.heap.size+1) (by omega) (by omega) #[.slice Ao no co];exact ⟨Ao,no,co,dso,rfl,HFO.o.far (aJ wc (w.heap.size+1) _) (fun z e=>by injection e with e;subst e;exact ⟨ay HFO.o.own C9.o.R (by decide),fun dd hdd=>ay (HFO.o.nodes dd hdd).1 C9.o.R (by decide),fun dd hdd y hy=>ay (HFO.o.cO dd hdd y hy).1 C9.o.R (by decide)⟩),HFK.o,hgx.src,hgx.only⟩
  case neg=>
    obtain ⟨p1,p2⟩:=bT hk;clear hk hO;have v0:=C9.o.V.cell 0;go_wp2_with ((with_reducible refine ae ?_ 28 (.tmp 4) (.tmp 89) ?_ C9.o.R #[.slice A n c] ?_ ?_ ?_ ?_ ?_ ?_);(iterate 4 rfl);(exact bS _);rfl;(exact bu _ _ _));refine bodyPost_ret (wM (fn:=Tryz.f105) rfl _ _ (w.heap.size+1) (.slice A n c) rfl (Blk.row C9.o.R _)) rfl ?_;have h1:=C9.o.h1;have hgx:=C9.o.f.row (k:=w.heap.size+1) (by omega) (by omega) #[.slice A n c];exact ⟨A,n,c,ds,rfl,hgx.fil,HOK.o,hgx.src,hgx.only⟩
end Go.Proofs.YtollifnnpihfdaaGreatDoor
