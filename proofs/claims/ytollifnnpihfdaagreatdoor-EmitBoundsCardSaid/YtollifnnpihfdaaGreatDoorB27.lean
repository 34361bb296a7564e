import Derived.Test.YtollifnnpihfdaaGreatDoorB26
set_option maxRecDepth 100000
set_option maxHeartbeats 64000000
set_option linter.all false
namespace Go.Proofs.YtollifnnpihfdaaGreatDoor
open Go.RowKit
theorem Bz {w:World} {g:Nat} {a b:Int} (h:Blk w g 44 #[.int .i64 a, .int .i64 b]):w.cell? ⟨g,0,none⟩=some (.int .i64 a)∧w.cell? ⟨g,1,none⟩=some (.int .i64 b):=⟨h.cell 0,h.cell 1⟩
theorem wY (base gw m:Nat) (u:Wu) (v:Wv) (ds:List Dm) (ms:List Mt) (fs:List Fo) (hn:0 < fs.length) (hm:0 < m) (w:World) (h:WkS w base gw u v ds ms fs m):
  Calls Tryz.prog 141 #[.pointer (some ⟨gw,0,none⟩)] w (WkP w base gw u fs m):=by
 have HW:=Hd h;have H0:=Hd hn;obtain ⟨gF,hF,_,_,hnF⟩:=aW h.O.ff hn;have HF:=Hd hF;have k1:(0:Int) < (v.nF:Int):=by rw [hnF];omega
 have k1a:0 < v.nF:=by omega
 have k1b:v.nF≠0:=by omega
 have k1c:¬ v.nF≤0:=by omega
 have HNM:=Hd (h.O.fk _ (List.getElem_mem H0.o));obtain ⟨a,ha⟩:∃ a,a=fs[0]'H0.o:=⟨_,rfl⟩;have HE0:=Hd ha.symm;have HNA:=Hd (show a.nm.size≤12∧a.pa.size≤640 by rw [ha];exact HNM.o);clear ha;have x26:w.cell? ⟨gw,26,none⟩=some (.slice (some ⟨gF,0,none⟩) v.nF v.cF):=by rw [← HF.o];exact h.X.cell 26
 have y00:w.cell? ⟨gF,0,none⟩=some (.int .i64 a.dd):=by have h9:=h.fnd HF.o H0.o 0 (by omega);rw [HE0.o] at h9;exact h9
 have y01:w.cell? ⟨gF,1,none⟩=some (.int .i64 a.di):=by have h9:=h.fnd HF.o H0.o 1 (by omega);rw [HE0.o] at h9;exact h9
 have y02:w.cell? ⟨gF,2,none⟩=some (.string a.nm):=by have h9:=h.fnd HF.o H0.o 2 (by omega);rw [HE0.o] at h9;exact h9
 have y03:w.cell? ⟨gF,3,none⟩=some (.int .i64 a.fd):=by have h9:=h.fnd HF.o H0.o 3 (by omega);rw [HE0.o] at h9;exact h9
 have y04:w.cell? ⟨gF,4,none⟩=some (.int .i64 a.fi):=by have h9:=h.fnd HF.o H0.o 4 (by omega);rw [HE0.o] at h9;exact h9
 have y05:w.cell? ⟨gF,5,none⟩=some (.bool a.ex):=by have h9:=h.fnd HF.o H0.o 5 (by omega);rw [HE0.o] at h9;exact h9
 have y06:w.cell? ⟨gF,6,none⟩=some (.bool a.sl):=by have h9:=h.fnd HF.o H0.o 6 (by omega);rw [HE0.o] at h9;exact h9
 have y07:w.cell? ⟨gF,7,none⟩=some (.string a.pa):=by have h9:=h.fnd HF.o H0.o 7 (by omega);rw [HE0.o] at h9;exact h9
 have S0:=Hd (RdW.new w 223 (foC a));clear h hn hF hnF HNM;go_in;go_upto_region 2 with fail;clear x26 k1 k1a k1b k1c y00 y01 y02 y03 y04 y05 y06 y07;generalize w.alloc (.cells (foC a) 223)=w0 at *;have HM:=Hd hm;clear hm;have b5:w0.cell? ⟨w.heap.size,5,none⟩=some (.bool a.ex):=S0.o.x.cell 5;cases hc:a.ex;case false=>
  rw [hc] at b5;go_wp2_with fail;go_ret;exact ⟨_,v,ds,ms,rfl,HW.o.below S0.o.b,S0.o.b.mono HW.o.big⟩
 rw [hc] at b5;clear hc;have x19:w0.cell? ⟨gw,19,none⟩=some (.int .i64 u.z):=(HW.o.below S0.o.b).X.cell 19;go_upto_if 21 with fail;clear b5;go_cut [4] (fun ev wx=>∃ (kk:Int) (v7:Wv) (d7:List Dm),ev= .int .i64 kk∧WkS wx base gw u v7 d7 ms fs m∧Below base w wx);case first=>
  by_cases hz:u.z=10;case pos=>
   obtain ⟨p1,p2⟩:=bI hz;clear hz;have b2:w0.cell? ⟨w.heap.size,2,none⟩=some (.string a.nm):=S0.o.x.cell 2;cases hc:a.nm.toList.isEmpty;case true=>
     go_wp2_with fail;go_ret;exact ⟨_,v,ds,ms,rfl,HW.o.below S0.o.b,S0.o.b.mono HW.o.big⟩
   go_wp2_with fail;clear b2 hc x19 p1 p2;refine (Bw base gw m u v ds ms fs 0 0 rfl H0.o w0 (HW.o.below S0.o.b)).mono ?_;rintro e w2 ⟨rfl,hb⟩;replace S0:=Hd (S0.o.below hb);clear hb;generalize hdd:bM (ds.map Dm.dv) (fs[0]'H0.o).fd (fs[0]'H0.o).fi=bd;clear hdd;cases bd;case true=>
     go_wp2_with fail;go_ret;exact ⟨_,v,ds,ms,rfl,HW.o.below S0.o.b,S0.o.b.mono HW.o.big⟩
   have b0:w2.cell? ⟨w.heap.size,0,none⟩=some (.int .i64 a.dd):=S0.o.x.cell 0;have b1:w2.cell? ⟨w.heap.size,1,none⟩=some (.int .i64 a.di):=S0.o.x.cell 1;go_wp2_with fail;clear b0 b1;refine (wX base gw m u v ds ms fs a.dd a.di 2 w2 (HW.o.below S0.o.b)).mono ?_;rintro e w3 ⟨⟨bm,rfl⟩,hb⟩;replace S0:=Hd (S0.o.below hb);clear hb;cases bm;case false=>
     go_wp2_with fail;go_ret;exact ⟨_,v,ds,ms,rfl,HW.o.below S0.o.b,S0.o.b.mono HW.o.big⟩
   go_upto_region 10 with fail;have DD:=Hd (show Below w.heap.size w w3.drew from aa S0.o.b (Below.refl w3.heap.size w3).drew);have C4:=Hd (show Blk w3.drew w.heap.size 223 (foC a) from S0.o.x);clear S0;refine wp_region_held_drew (S:=(fun W=>Blk W w.heap.size 223 (foC a))) (by kernel_rfl) C4.o (fun hHeld=>?_);generalize w3.drew=w4 at *;refine tk hHeld 0 ?_ ?_ (tk hHeld 1 ?_ ?_ (tk hHeld 2 ?_ ?_ (tk hHeld 3 ?_ ?_ (tk hHeld 4 ?_ ?_ (tk hHeld 5 ?_ ?_ (tk hHeld 7 ?_ ?_ (tk hHeld 8 ?_ ?_ (tk hHeld 9 ?_ ?_ (tk hHeld 10 ?_ ?_ ?_)))))))));iterate 10
     rotate_left
     · intro W hSw;have p0:W.cell? ⟨w.heap.size,0,none⟩=some (.int .i64 a.dd):=hSw.cell 0;have p1:W.cell? ⟨w.heap.size,1,none⟩=some (.int .i64 a.di):=hSw.cell 1;have p2:W.cell? ⟨w.heap.size,2,none⟩=some (.string a.nm):=hSw.cell 2;go_simp;try (with_reducible rfl)
   refine bn [6] [(6,40)] (fun W=>Below w.heap.size w W) (fun _ x' _=>x' =fsV v.A v.n v.c) (fun A B=>Below A.heap.size A B) 6 hHeld DD.o rfl (by kernel_rfl) (by kernel_rfl) (fun A B hb=>⟨fun h=>h.below hb,fun h=>aa h hb,fun j x' h=>h⟩) ?steps ?fin;case steps=>
     refine aY.cons (i:=6) rfl (fun u W hSW hJW hpre K hK=>?_) ?_
     · dsimp only [bN,List.foldl];have x0:W.cell? ⟨gw,0,none⟩=some (.slice v.A v.n v.c):=(HW.o.below hJW).X.cell 0;go_simp;exact hK.o _ _ _ (by kernel_rfl) rfl (Below.refl _ _)
     exact aY.nil
   case fin=>
   intro uu W hHeld hJ hV;dsimp only [bN,List.foldl];have e6:=hV 6 rfl;simp only [e6];go_simp;have D5:=Hd hJ;have C5:=Hd hHeld;clear hV e6 hJ DD;refine rdy1 11 (fun K hK=>?_);go_simp;go_at_call 164;refine (zi a.dd a.di a.nm (by have:=HNA.o.1;omega) ds v.A v.n v.c HW.o.O.few.2.2 HW.o.O.so.1 W (HW.o.below D5.o).files).mono ?_;intro e w6 hp;obtain ⟨A2,n2,c2,C2,nC2,cC2,kk,rfl,hb,hok⟩:=hp.uC;go_simp;have D6:=Hd (aa D5.o hb);have C6:=Hd (show (fun W=>Blk W w.heap.size 223 (foC a)) w6 from (fun h=>h.below hb) C5.o);have HP:=Hd (show kk=0→∃ ds2 cs2,aC w6 base (.slice A2 n2 c2) ds2∧SOk (ds2.map Dm.dv) ms∧ax lN w6 base (.slice C2 nC2 cC2) cs2∧cs2.length≤2∧(nC2=cs2.length→True) from fun hk0=>by
     obtain ⟨ds2,cs2,h1,h2,h3⟩:=hok hk0;have hlow:base≤W.heap.size:=Nat.le_trans HW.o.big D5.o.size;obtain ⟨⟨t,h4,h5⟩,h6⟩:=h3;exact ⟨ds2,cs2,h1.low hlow,HW.o.O.so.files (HW.o.O.so.1.unlink h4) (h4.keep HW.o.O.so.1) (fun x hx e1 e2=>by have h7:=HW.o.O.so.2.J3 x hx;rw [e1,e2,h5] at h7;cases h7),h2.low hlow,h6,fun _=>trivial⟩)
   refine hK.o _ _ C6.o (fun hHeld=>?_);clear hK K hb hok D5 C5;refine tk hHeld 12 ?_ ?_ (tk hHeld 13 ?_ ?_ (tk hHeld 14 ?_ ?_ ?_));iterate 3
     rotate_left
     · intro W hSw;go_simp;try (with_reducible rfl)
   refine rdy1 15 (fun K hK=>?_);go_simp;go_at_call 203;refine (mR base gw m u v ds ms fs A2 n2 c2 C2 nC2 cC2 kk (fun _=>True) w6 (HW.o.below D6.o) HP.o).mono ?_;rintro e w7 ⟨v7,d7,rfl,hw7,hb7,hf7,_,_⟩;go_simp;have W7:=Hd hw7;have B7:=Hd ((D6.o.mono HW.o.big).trans hb7);have C7:=Hd (show Blk w7 w.heap.size 223 (foC a) from hf7 _ _ _ C6.o (by decide) (by have:=HW.o.X.lt;omega));refine hK.o _ _ C7.o (fun hHeld=>?_);clear hK K hw7 hb7 hf7 C6 D6 HP;refine tk hHeld 16 ?_ ?_ ?_;rotate_left
   · intro W hSw;go_simp;try (with_reducible rfl)
   refine wpAnyH_done (by kernel_rfl) ?_ _;go_wp2_with fail;go_meet;exact ⟨kk,v7,d7,rfl,W7.o,B7.o⟩
  case neg=>
   obtain ⟨p1,p2⟩:=aM hz;clear hz;have b2:w0.cell? ⟨w.heap.size,2,none⟩=some (.string a.nm):=S0.o.x.cell 2;cases hc:a.nm.toList.isEmpty;case true=>
     go_wp2_with fail;go_ret;exact ⟨_,v,ds,ms,rfl,HW.o.below S0.o.b,S0.o.b.mono HW.o.big⟩
   go_wp2_with fail;clear b2 hc x19 p1 p2;refine (Bw base gw m u v ds ms fs 0 0 rfl H0.o w0 (HW.o.below S0.o.b)).mono ?_;rintro e w2 ⟨rfl,hb⟩;replace S0:=Hd (S0.o.below hb);clear hb;generalize hdd:bM (ds.map Dm.dv) (fs[0]'H0.o).fd (fs[0]'H0.o).fi=bd;clear hdd;cases bd;case false=>
     go_wp2_with fail;go_ret;exact ⟨_,v,ds,ms,rfl,HW.o.below S0.o.b,S0.o.b.mono HW.o.big⟩
   go_upto_region 15 with fail;have S1:=Hd (show RdW w w2.drew 223 (foC a) from S0.o.below (Below.refl w2.heap.size w2).drew);go_cut [5] (fun p wx=>∃ (go:Nat) (r1 r2 ke:Int),p= .pointer (some ⟨go,0,none⟩)∧w.heap.size+1 < go+1∧RdW w wx 223 (foC a)∧Blk wx go 44 #[.int .i64 r1, .int .i64 r2]∧cB (ds.map Dm.dv) a.dd a.di a.nm=(ke,r1,r2));case first=>
     refine wp_region_held_drew (S:=(fun W=>RdW w W 223 (foC a))) (by kernel_rfl) S1.o (fun hHeld=>?_);generalize w2.drew=w1 at *;refine tk hHeld 0 ?_ ?_ (tk hHeld 1 ?_ ?_ (tk hHeld 2 ?_ ?_ (tk hHeld 3 ?_ ?_ (tk hHeld 4 ?_ ?_ (tk hHeld 5 ?_ ?_ (tk hHeld 6 ?_ ?_ (tk hHeld 7 ?_ ?_ (tk hHeld 8 ?_ ?_ (tk hHeld 9 ?_ ?_ ?_)))))))));iterate 10
       rotate_left
       · intro W hSw;have hh:=HW.o.below hSw.b;have x0:W.cell? ⟨gw,0,none⟩=some (.slice v.A v.n v.c):=hh.X.cell 0;have p0:W.cell? ⟨w.heap.size,0,none⟩=some (.int .i64 a.dd):=hSw.x.cell 0;have p1:W.cell? ⟨w.heap.size,1,none⟩=some (.int .i64 a.di):=hSw.x.cell 1;have p2:W.cell? ⟨w.heap.size,2,none⟩=some (.string a.nm):=hSw.x.cell 2;clear hh;go_simp;try (with_reducible rfl)
     refine wpAnyH_ready (rs:= [10,14]) (by kernel_rfl) (by simp) ?_;refine AllReadyH.cons rfl (fun K hK=>?_) (AllReadyH.cons rfl (fun K hK=>?_) AllReadyH.nil)
     · go_simp;go_at_call 196;refine (fJ a.dd a.di a.nm ds _ _ _ HW.o.O.few.2.2 w1 (HW.o.below (S1.o).b).files).mono ?_;rintro e we ⟨rfl,hb⟩;generalize hlk:cB (ds.map Dm.dv) a.dd a.di a.nm=rr at *;obtain ⟨ke,r1,r2⟩:=rr;have HLK:=Hd hlk;clear hlk;go_simp;have SA:=Hd (show RdW w we 223 (foC a) from (S1.o).below hb);refine hK.o _ _ SA.o (fun hHeld=>?_);clear hK K;refine tk hHeld 11 ?_ ?_ (tk hHeld 12 ?_ ?_ (tk hHeld 13 ?_ ?_ ?_));iterate 3
         rotate_left
         · intro W hSw;go_simp;try (with_reducible rfl)
       have hba:=(Below.refl we.heap.size we).alloc (Nat.le_refl _) (.cells #[.int .i64 0, .int .i64 0] 44);have S2:=Hd (show RdW w (we.alloc (.cells #[.int .i64 0, .int .i64 0] 44)) 223 (foC a) from (SA.o).below hba);have Q2:=Hd (Blk.new we #[.int .i64 0, .int .i64 0] 44);have HGB:=Hd (show w.heap.size+1≤we.heap.size from (SA.o).lt);refine rdy1 14 (fun K hK=>?_);go_simp;refine hK.o _ _ S2.o (fun hHeld=>?_);clear hK K;clear hba hb SA;generalize we.alloc (.cells #[.int .i64 0, .int .i64 0] 44)=Wz at *;generalize we.heap.size=gb at *;refine rdy1 15 (fun K hK=>?_);refine ag (by rfl) 44 (.tmp 5) (.tmp 68) (by rfl) Q2.o #[.int .i64 r1, .int .i64 r2] ?_ ?_ (dK _ _) rfl (bU _ _) ?_
       · go_simp
       · go_simp
       have S3:=Hd (show RdW w (Wz.setRow gb #[.int .i64 r1, .int .i64 r2]) 223 (foC a) from (S2.o).row HGB.o _);have Q3:=Hd (Q2.o.row #[.int .i64 r1, .int .i64 r2]);refine hK.o _ _ S3.o (fun hHeld=>?_);clear hK K;generalize Wz.setRow gb #[.int .i64 r1, .int .i64 r2]=Wy at *;refine tk hHeld 16 ?_ ?_ ?_;rotate_left
       · intro W hSw;go_simp;try (with_reducible rfl)
       refine wpAnyH_done (by kernel_rfl) ?_ _;go_wp2_with fail;go_meet;exact ⟨gb,r1,r2,ke,rfl,Nat.lt_succ_of_le HGB.o,S3.o,Q3.o,rfl⟩
     · go_simp;have hba:=(Below.refl w1.heap.size w1).alloc (Nat.le_refl _) (.cells #[.int .i64 0, .int .i64 0] 44);have SA:=Hd (show RdW w (w1.alloc (.cells #[.int .i64 0, .int .i64 0] 44)) 223 (foC a) from (S1.o).below hba);have QA:=Hd (Blk.new w1 #[.int .i64 0, .int .i64 0] 44);have HGB:=Hd (show w.heap.size+1≤w1.heap.size from (S1.o).lt);refine hK.o _ _ SA.o (fun hHeld=>?_);clear hK K hba;generalize w1.alloc (.cells #[.int .i64 0, .int .i64 0] 44)=w1b at *;generalize w1.heap.size=gb at *;refine rdy1 10 (fun K hK=>?_);go_simp;go_at_call 196;refine (fJ a.dd a.di a.nm ds _ _ _ HW.o.O.few.2.2 w1b (HW.o.below (SA.o).b).files).mono ?_;rintro e we ⟨rfl,hb⟩;generalize hlk:cB (ds.map Dm.dv) a.dd a.di a.nm=rr at *;obtain ⟨ke,r1,r2⟩:=rr;have HLK:=Hd hlk;clear hlk;go_simp;have S2:=Hd (show RdW w we 223 (foC a) from (SA.o).below hb);have Q2:=Hd (QA.o.below hb);refine hK.o _ _ S2.o (fun hHeld=>?_);clear hK K hb SA QA;generalize we=Wz at *;refine tk hHeld 11 ?_ ?_ (tk hHeld 12 ?_ ?_ (tk hHeld 13 ?_ ?_ ?_));iterate 3
         rotate_left
         · intro W hSw;go_simp;try (with_reducible rfl)
       refine rdy1 15 (fun K hK=>?_);refine ag (by rfl) 44 (.tmp 5) (.tmp 68) (by rfl) Q2.o #[.int .i64 r1, .int .i64 r2] ?_ ?_ (dK _ _) rfl (bU _ _) ?_
       · go_simp
       · go_simp
       have S3:=Hd (show RdW w (Wz.setRow gb #[.int .i64 r1, .int .i64 r2]) 223 (foC a) from (S2.o).row HGB.o _);have Q3:=Hd (Q2.o.row #[.int .i64 r1, .int .i64 r2]);refine hK.o _ _ S3.o (fun hHeld=>?_);clear hK K;generalize Wz.setRow gb #[.int .i64 r1, .int .i64 r2]=Wy at *;refine tk hHeld 16 ?_ ?_ ?_;rotate_left
       · intro W hSw;go_simp;try (with_reducible rfl)
       refine wpAnyH_done (by kernel_rfl) ?_ _;go_wp2_with fail;go_meet;exact ⟨gb,r1,r2,ke,rfl,Nat.lt_succ_of_le HGB.o,S3.o,Q3.o,rfl⟩
   case rest=>
   obtain ⟨go,r1,r2,ke,rfl,hgo,hs3,hq3,hlk⟩:=hcut;clear S0 S1;have S0:=Hd hs3;have KR:=Hd hlk;obtain ⟨o0,o1⟩:=Bz hq3;clear hs3 hlk hgo;go_wp2_with fail;clear o0 o1 hq3;refine (GQ base gw m u v ds ms fs r1 r2 wc (HW.o.below S0.o.b)).mono ?_;rintro e w6 ⟨bu,rfl,hbu,hb⟩;replace S0:=Hd (S0.o.below hb);clear hb;cases bu;case true=>
     go_wp2_with fail;go_ret;exact ⟨_,v,ds,ms,rfl,HW.o.below S0.o.b,S0.o.b.mono HW.o.big⟩
   have HBU:=Hd (hbu rfl);clear hbu;have b0:w6.cell? ⟨w.heap.size,0,none⟩=some (.int .i64 a.dd):=S0.o.x.cell 0;have b1:w6.cell? ⟨w.heap.size,1,none⟩=some (.int .i64 a.di):=S0.o.x.cell 1;go_wp2_with fail;clear b0 b1;refine (wX base gw m u v ds ms fs a.dd a.di 2 w6 (HW.o.below S0.o.b)).mono ?_;rintro e w3 ⟨⟨bm,rfl⟩,hb⟩;replace S0:=Hd (S0.o.below hb);clear hb;cases bm;case false=>
     go_wp2_with fail;go_ret;exact ⟨_,v,ds,ms,rfl,HW.o.below S0.o.b,S0.o.b.mono HW.o.big⟩
   go_upto_region 20 with fail;have DD:=Hd (show Below w.heap.size w w3.drew from aa S0.o.b (Below.refl w3.heap.size w3).drew);have C4:=Hd (show Blk w3.drew w.heap.size 223 (foC a) from S0.o.x);clear S0;refine wp_region_held_drew (S:=(fun W=>Blk W w.heap.size 223 (foC a))) (by kernel_rfl) C4.o (fun hHeld=>?_);generalize w3.drew=w4 at *;refine tk hHeld 0 ?_ ?_ (tk hHeld 1 ?_ ?_ (tk hHeld 2 ?_ ?_ (tk hHeld 3 ?_ ?_ (tk hHeld 4 ?_ ?_ (tk hHeld 5 ?_ ?_ (tk hHeld 7 ?_ ?_ (tk hHeld 8 ?_ ?_ (tk hHeld 9 ?_ ?_ (tk hHeld 10 ?_ ?_ ?_)))))))));iterate 10
     rotate_left
     · intro W hSw;have p0:W.cell? ⟨w.heap.size,0,none⟩=some (.int .i64 a.dd):=hSw.cell 0;have p1:W.cell? ⟨w.heap.size,1,none⟩=some (.int .i64 a.di):=hSw.cell 1;have p2:W.cell? ⟨w.heap.size,2,none⟩=some (.string a.nm):=hSw.cell 2;go_simp;try (with_reducible rfl)
   refine bn [6] [(6,84)] (fun W=>Below w.heap.size w W) (fun _ x' _=>x' =fsV v.A v.n v.c) (fun A B=>Below A.heap.size A B) 6 hHeld DD.o rfl (by kernel_rfl) (by kernel_rfl) (fun A B hb=>⟨fun h=>h.below hb,fun h=>aa h hb,fun j x' h=>h⟩) ?steps ?fin;case steps=>
     refine aY.cons (i:=6) rfl (fun u W hSW hJW hpre K hK=>?_) ?_
     · dsimp only [bN,List.foldl];have x0:W.cell? ⟨gw,0,none⟩=some (.slice v.A v.n v.c):=(HW.o.below hJW).X.cell 0;go_simp;exact hK.o _ _ _ (by kernel_rfl) rfl (Below.refl _ _)
     exact aY.nil
   case fin=>
   intro uu W hHeld hJ hV;dsimp only [bN,List.foldl];have e6:=hV 6 rfl;simp only [e6];go_simp;have D5:=Hd hJ;have C5:=Hd hHeld;clear hV e6 hJ DD;refine rdy1 11 (fun K hK=>?_);go_simp;go_at_call 165;refine (CY a.dd a.di a.nm (by have:=HNA.o.1;omega) ds v.A v.n v.c HW.o.O.few.2.2 HW.o.O.so.1 W (HW.o.below D5.o).files).mono ?_;intro e w6 hp;obtain ⟨A2,n2,c2,C2,nC2,cC2,kk,rfl,hb,hok⟩:=hp.uC;go_simp;have D6:=Hd (aa D5.o hb);have C6:=Hd (show (fun W=>Blk W w.heap.size 223 (foC a)) w6 from (fun h=>h.below hb) C5.o);have HP:=Hd (show kk=0→∃ ds2 cs2,aC w6 base (.slice A2 n2 c2) ds2∧SOk (ds2.map Dm.dv) ms∧ax lN w6 base (.slice C2 nC2 cC2) cs2∧cs2.length≤2∧(nC2=cs2.length→True) from fun hk0=>by
     obtain ⟨ds2,cs2,h1,h2,h3⟩:=hok hk0;have hlow:base≤W.heap.size:=Nat.le_trans HW.o.big D5.o.size;obtain ⟨⟨t,h4⟩,h6⟩:=h3;have h8:=KR.o.symm.trans h4.2.1;injection h8 with h8 h9;injection h9 with h9 h10;exact ⟨ds2,cs2,h1.low hlow,HW.o.O.so.files (HW.o.O.so.1.unlink h4) (h4.keep HW.o.O.so.1) (fun x hx e1 e2=>HBU.o x hx ⟨by rw [e1,h9],by rw [e2,h10]⟩),h2.low hlow,h6,fun _=>trivial⟩)
   refine hK.o _ _ C6.o (fun hHeld=>?_);clear hK K hb hok D5 C5;refine tk hHeld 12 ?_ ?_ (tk hHeld 13 ?_ ?_ (tk hHeld 14 ?_ ?_ ?_));iterate 3
     rotate_left
     · intro W hSw;go_simp;try (with_reducible rfl)
   refine rdy1 15 (fun K hK=>?_);go_simp;go_at_call 203;refine (mR base gw m u v ds ms fs A2 n2 c2 C2 nC2 cC2 kk (fun _=>True) w6 (HW.o.below D6.o) HP.o).mono ?_;rintro e w7 ⟨v7,d7,rfl,hw7,hb7,hf7,_,_⟩;go_simp;have W7:=Hd hw7;have B7:=Hd ((D6.o.mono HW.o.big).trans hb7);have C7:=Hd (show Blk w7 w.heap.size 223 (foC a) from hf7 _ _ _ C6.o (by decide) (by have:=HW.o.X.lt;omega));refine hK.o _ _ C7.o (fun hHeld=>?_);clear hK K hw7 hb7 hf7 C6 D6 HP;refine tk hHeld 16 ?_ ?_ ?_;rotate_left
   · intro W hSw;go_simp;try (with_reducible rfl)
   refine wpAnyH_done (by kernel_rfl) ?_ _;go_wp2_with fail;go_meet;exact ⟨kk,v7,d7,rfl,W7.o,B7.o⟩
 case rest=>
 obtain ⟨kk,v7,d7,rfl,hw7,hb7⟩:=hcut;have W7:=Hd hw7;have B7:=Hd hb7;clear hw7 hb7 S0 x19;by_cases hkk:kk=0;case neg=>
  obtain ⟨p1,p2⟩:=aM hkk;clear hkk;go_wp2_with fail;go_ret;exact ⟨kk,v7,d7,ms,rfl,W7.o,B7.o⟩
 subst hkk;obtain ⟨gI,hI,hbI,hlI,hnI,JI⟩:=W7.o.zI HM.o;have HI:=Hd hI;have k5:(0:Int) < (v7.nI:Int):=by have:=HM.o;rw [hnI];omega
 obtain ⟨q7,c7,f7⟩:=W7.o.lV HI.o HM.o 7 (by omega);have c7:wc.cell? ⟨gI,7,none⟩=some q7:=by simpa using c7
 have f7:wc.frozen? ⟨gI,7,none⟩=false:=by simpa using f7
 have x30:wc.cell? ⟨gw,30,none⟩=some (.slice (some ⟨gI,0,none⟩) v7.nI v7.cI):=by rw [← HI.o];exact W7.o.X.cell 30
 have W8:=Hd (show WkS (wc.setCell ⟨gI,7,none⟩ (.int .i64 3)) base gw u v7 d7 ms fs m by have h9:=W7.o.item HI.o HM.o 7 (by omega) 3;simpa using h9);have B8:=Hd (B7.o.setCell (p:=⟨gI,7,none⟩) hbI (.int .i64 3));clear hI hnI;go_wp2_with fail;go_ret;exact ⟨0,v7,d7,ms,rfl,W8.o,B8.o⟩
end Go.Proofs.YtollifnnpihfdaaGreatDoor
