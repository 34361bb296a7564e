import Derived.Test.YtollifnnpihfdaaGreatDoorB25
set_option maxRecDepth 100000
set_option maxHeartbeats 64000000
set_option linter.all false
namespace Go.Proofs.YtollifnnpihfdaaGreatDoor
open Go.RowKit
structure Rd2 (w W:World) (g3 g4:Nat) (x y:Fo):Prop where
 b:Below w.heap.size w W
 x3:Blk W g3 223 (foC x)
 x4:Blk W g4 223 (foC y)
 l3:w.heap.size≤g3
 l4:w.heap.size≤g4
theorem Rd2.below {w W W' :World} {g3 g4:Nat} {a b:Fo} (h:Rd2 w W g3 g4 a b) (hb:Below W.heap.size W W'):Rd2 w W' g3 g4 a b:=⟨aa h.b hb,h.x3.below hb,h.x4.below hb,h.l3,h.l4⟩
theorem KQ (base gw m:Nat) (u:Wu) (v:Wv) (ds:List Dm) (ms:List Mt) (fs:List Fo) (hn:2≤fs.length) (hm:2≤m) (w:World) (h:WkS w base gw u v ds ms fs m):
   Calls Tryz.prog 140 #[.pointer (some ⟨gw,0,none⟩)] w (WkP w base gw u fs m):=by
 have HW:=Hd h;have HLF:=Hd hn;have HMM:=Hd hm;have H0:=Hd (show 0 < fs.length by omega);have H1:=Hd (show 1 < fs.length by omega);obtain ⟨gF,hF,_,_,hnF⟩:=aW h.O.ff H0.o;have HF:=Hd hF;have k1:(0:Int) < (v.nF:Int):=by rw [hnF];omega
 have k2:(1:Int) < (v.nF:Int):=by rw [hnF];omega
 have k1a:0 < v.nF:=by omega
 have k1b:v.nF≠0:=by omega
 have k1c:¬ v.nF≤0:=by omega
 have k2a:1 < v.nF:=by omega
 have k2c:¬ v.nF≤1:=by omega
 obtain ⟨a,ha⟩:∃ a,a=fs[0]'H0.o:=⟨_,rfl⟩;have HE0:=Hd ha.symm;have HNA:=Hd (show a.nm.size≤12∧a.pa.size≤640 by rw [ha];exact h.O.fk _ (List.getElem_mem H0.o));obtain ⟨b,hb⟩:∃ b,b=fs[1]'H1.o:=⟨_,rfl⟩;have HE1:=Hd hb.symm;have HNB:=Hd (show b.nm.size≤12∧b.pa.size≤640 by rw [hb];exact h.O.fk _ (List.getElem_mem H1.o));clear ha hb;have D0:=Hd (Below.refl w.heap.size w).drew;clear h hn hm hF hnF;go_in;go_upto_region 1 with fail;go_cut [3,4] (fun p q wx=>∃ g3 g4,p= .pointer (some ⟨g3,0,none⟩)∧q= .pointer (some ⟨g4,0,none⟩)∧Rd2 w wx g3 g4 a b);case first=>
   refine wp_region_held_drew (S:=(fun W=>Below w.heap.size w W)) (by kernel_rfl) D0.o (fun hHeld=>?_);generalize w.drew=w0 at *;refine tk hHeld 0 ?_ ?_ (tk hHeld 1 ?_ ?_ (tk hHeld 2 ?_ ?_ (tk hHeld 3 ?_ ?_ (tk hHeld 4 ?_ ?_ (tk hHeld 5 ?_ ?_ (tk hHeld 6 ?_ ?_ (tk hHeld 7 ?_ ?_ (tk hHeld 8 ?_ ?_ (tk hHeld 9 ?_ ?_ (tk hHeld 10 ?_ ?_ (tk hHeld 11 ?_ ?_ ?_)))))))))));iterate 12
     rotate_left
     · intro W hSw;have hh:=HW.o.below hSw;have x26:W.cell? ⟨gw,26,none⟩=some (.slice (some ⟨gF,0,none⟩) v.nF v.cF):=(by rw [← HF.o];exact hh.X.cell 26);have y00:W.cell? ⟨gF,0,none⟩=some (.int .i64 a.dd):=(by have h9:=hh.fnd HF.o H0.o 0 (by omega);rw [HE0.o] at h9;exact h9);have y01:W.cell? ⟨gF,1,none⟩=some (.int .i64 a.di):=(by have h9:=hh.fnd HF.o H0.o 1 (by omega);rw [HE0.o] at h9;exact h9);have y02:W.cell? ⟨gF,2,none⟩=some (.string a.nm):=(by have h9:=hh.fnd HF.o H0.o 2 (by omega);rw [HE0.o] at h9;exact h9);have y03:W.cell? ⟨gF,3,none⟩=some (.int .i64 a.fd):=(by have h9:=hh.fnd HF.o H0.o 3 (by omega);rw [HE0.o] at h9;exact h9);have y04:W.cell? ⟨gF,4,none⟩=some (.int .i64 a.fi):=(by have h9:=hh.fnd HF.o H0.o 4 (by omega);rw [HE0.o] at h9;exact h9);have y05:W.cell? ⟨gF,5,none⟩=some (.bool a.ex):=(by have h9:=hh.fnd HF.o H0.o 5 (by omega);rw [HE0.o] at h9;exact h9);have y06:W.cell? ⟨gF,6,none⟩=some (.bool a.sl):=(by have h9:=hh.fnd HF.o H0.o 6 (by omega);rw [HE0.o] at h9;exact h9);have y07:W.cell? ⟨gF,7,none⟩=some (.string a.pa):=(by have h9:=hh.fnd HF.o H0.o 7 (by omega);rw [HE0.o] at h9;exact h9);have y10:W.cell? ⟨gF,8,none⟩=some (.int .i64 b.dd):=(by have h9:=hh.fnd HF.o H1.o 0 (by omega);rw [HE1.o] at h9;exact h9);have y11:W.cell? ⟨gF,9,none⟩=some (.int .i64 b.di):=(by have h9:=hh.fnd HF.o H1.o 1 (by omega);rw [HE1.o] at h9;exact h9);have y12:W.cell? ⟨gF,10,none⟩=some (.string b.nm):=(by have h9:=hh.fnd HF.o H1.o 2 (by omega);rw [HE1.o] at h9;exact h9);have y13:W.cell? ⟨gF,11,none⟩=some (.int .i64 b.fd):=(by have h9:=hh.fnd HF.o H1.o 3 (by omega);rw [HE1.o] at h9;exact h9);have y14:W.cell? ⟨gF,12,none⟩=some (.int .i64 b.fi):=(by have h9:=hh.fnd HF.o H1.o 4 (by omega);rw [HE1.o] at h9;exact h9);have y15:W.cell? ⟨gF,13,none⟩=some (.bool b.ex):=(by have h9:=hh.fnd HF.o H1.o 5 (by omega);rw [HE1.o] at h9;exact h9);have y16:W.cell? ⟨gF,14,none⟩=some (.bool b.sl):=(by have h9:=hh.fnd HF.o H1.o 6 (by omega);rw [HE1.o] at h9;exact h9);have y17:W.cell? ⟨gF,15,none⟩=some (.string b.pa):=(by have h9:=hh.fnd HF.o H1.o 7 (by omega);rw [HE1.o] at h9;exact h9);go_simp;try (with_reducible rfl)
   have hsz:w.heap.size≤w0.heap.size:=D0.o.size;have B1:=Hd (D0.o.alloc hsz (.cells foZ 223));have B2:=Hd (B1.o.alloc (by rw [World.size_alloc];omega) (.cells foZ 223));have P1:=Hd ((Blk.new w0 foZ 223).alloc (.cells foZ 223));have p2:=Blk.new (w0.alloc (.cells foZ 223)) foZ 223;rw [World.size_alloc] at p2;have P2:=Hd p2;clear p2;refine wpAnyH_ready (rs:= [12,13]) (by kernel_rfl) (by simp) ?_;refine AllReadyH.cons rfl (fun K hK=>?_) (AllReadyH.cons rfl (fun K hK=>?_) AllReadyH.nil)
   · go_simp;refine hK.o _ _ B1.o (fun hHeld=>?_);clear hK K;refine rdy1 13 (fun K hK=>?_);go_simp;refine hK.o _ _ B2.o (fun hHeld=>?_);clear hK K;refine rdy1 14 (fun K hK=>?_);refine ag (by rfl) 223 (.tmp 3) (.tmp 11) (by rfl) P1.o (foC a) ?_ ?_ (dB _) rfl (bK _) ?_
     · go_simp
     · go_simp
     have R1:=Hd (show Rd2 w (((w0.alloc (.cells foZ 223)).alloc (.cells foZ 223)).setRow w0.heap.size (foC a)) w0.heap.size (w0.heap.size+1) a zFo from ⟨ai B2.o (by omega) _,P1.o.row _,P2.o.ah _ (by omega),by omega,by omega⟩);refine hK.o _ _ R1.o.b (fun hHeld=>?_);clear hK K;refine rdy1 15 (fun K hK=>?_);refine ag (by rfl) 223 (.tmp 4) (.tmp 17) (by rfl) R1.o.x4 (foC b) ?_ ?_ (dB _) rfl (bK _) ?_
     · go_simp
     · go_simp
     have R2:=Hd (show Rd2 w ((((w0.alloc (.cells foZ 223)).alloc (.cells foZ 223)).setRow w0.heap.size (foC a)).setRow (w0.heap.size+1) (foC b)) w0.heap.size (w0.heap.size+1) a b from ⟨ai R1.o.b (by omega) _,R1.o.x3.ah _ (by omega),R1.o.x4.row _,by omega,by omega⟩);refine hK.o _ _ R2.o.b (fun hHeld=>?_);clear hK K;refine wpAnyH_done (by kernel_rfl) ?_ _;go_wp2_with fail;go_meet;exact ⟨w0.heap.size,(w0.heap.size+1),rfl,rfl,R2.o⟩
   · go_simp;refine hK.o _ _ B1.o (fun hHeld=>?_);clear hK K;refine rdy1 12 (fun K hK=>?_);go_simp;refine hK.o _ _ B2.o (fun hHeld=>?_);clear hK K;refine rdy1 14 (fun K hK=>?_);refine ag (by rfl) 223 (.tmp 3) (.tmp 11) (by rfl) P2.o (foC a) ?_ ?_ (dB _) rfl (bK _) ?_
     · go_simp
     · go_simp
     have R1:=Hd (show Rd2 w (((w0.alloc (.cells foZ 223)).alloc (.cells foZ 223)).setRow (w0.heap.size+1) (foC a)) (w0.heap.size+1) w0.heap.size a zFo from ⟨ai B2.o (by omega) _,P2.o.row _,P1.o.ah _ (by omega),by omega,by omega⟩);refine hK.o _ _ R1.o.b (fun hHeld=>?_);clear hK K;refine rdy1 15 (fun K hK=>?_);refine ag (by rfl) 223 (.tmp 4) (.tmp 17) (by rfl) R1.o.x4 (foC b) ?_ ?_ (dB _) rfl (bK _) ?_
     · go_simp
     · go_simp
     have R2:=Hd (show Rd2 w ((((w0.alloc (.cells foZ 223)).alloc (.cells foZ 223)).setRow (w0.heap.size+1) (foC a)).setRow w0.heap.size (foC b)) (w0.heap.size+1) w0.heap.size a b from ⟨ai R1.o.b (by omega) _,R1.o.x3.ah _ (by omega),R1.o.x4.row _,by omega,by omega⟩);refine hK.o _ _ R2.o.b (fun hHeld=>?_);clear hK K;refine wpAnyH_done (by kernel_rfl) ?_ _;go_wp2_with fail;go_meet;exact ⟨(w0.heap.size+1),w0.heap.size,rfl,rfl,R2.o⟩
 case rest=>
 obtain ⟨g3,g4,rfl,rfl,hr⟩:=hcut;have R0:=Hd hr;clear hr D0 k1 k2 k1a k1b k1c k2a k2c;have p5:wc.cell? ⟨g3,5,none⟩=some (.bool a.ex):=R0.o.x3.cell 5;cases hc:a.ex;case false=>
   rw [hc] at p5;go_wp2_with fail;go_ret;exact ⟨_,v,ds,ms,rfl,HW.o.below R0.o.b,R0.o.b.mono HW.o.big⟩
 rw [hc] at p5;clear hc;go_wp2_with fail;clear p5;refine (Bw base gw m u v ds ms fs 0 0 rfl H0.o wc (HW.o.below R0.o.b)).mono ?_;rintro e w2 ⟨rfl,hb⟩;replace R0:=Hd (R0.o.below hb);clear hb;generalize hdd:bM (ds.map Dm.dv) (fs[0]'H0.o).fd (fs[0]'H0.o).fi=bd;clear hdd;cases bd;case true=>
   go_wp2_with fail;go_ret;exact ⟨_,v,ds,ms,rfl,HW.o.below R0.o.b,R0.o.b.mono HW.o.big⟩
 have q5:w2.cell? ⟨g4,5,none⟩=some (.bool b.ex):=R0.o.x4.cell 5;have q6:w2.cell? ⟨g4,6,none⟩=some (.bool b.sl):=R0.o.x4.cell 6;cases hc:b.ex;case true=>
   rw [hc] at q5;go_wp2_with fail;go_ret;exact ⟨_,v,ds,ms,rfl,HW.o.below R0.o.b,R0.o.b.mono HW.o.big⟩
 rw [hc] at q5;clear hc;cases hc:b.sl;case true=>
   rw [hc] at q6;go_wp2_with fail;go_ret;exact ⟨_,v,ds,ms,rfl,HW.o.below R0.o.b,R0.o.b.mono HW.o.big⟩
 rw [hc] at q6;clear hc;have p3:w2.cell? ⟨g3,3,none⟩=some (.int .i64 a.fd):=R0.o.x3.cell 3;have q0:w2.cell? ⟨g4,0,none⟩=some (.int .i64 b.dd):=R0.o.x4.cell 0;have q1:w2.cell? ⟨g4,1,none⟩=some (.int .i64 b.di):=R0.o.x4.cell 1;by_cases hdv:a.fd=b.dd;case neg=>
   obtain ⟨p1,p2⟩:=aM hdv;go_wp2_with fail;go_ret;exact ⟨_,v,ds,ms,rfl,HW.o.below R0.o.b,R0.o.b.mono HW.o.big⟩
 obtain ⟨p1,p2⟩:=bI hdv;clear hdv;go_wp2_with fail;clear q5 q6 p3 q0 q1 p1 p2;refine (wX base gw m u v ds ms fs b.dd b.di 2 w2 (HW.o.below R0.o.b)).mono ?_;rintro e w3 ⟨⟨bm,rfl⟩,hb⟩;replace R0:=Hd (R0.o.below hb);clear hb;cases bm;case false=>
   go_wp2_with fail;go_ret;exact ⟨_,v,ds,ms,rfl,HW.o.below R0.o.b,R0.o.b.mono HW.o.big⟩
 go_upto_region 14 with fail;have DD:=Hd (show Below w.heap.size w w3.drew from aa R0.o.b (Below.refl w3.heap.size w3).drew);have C4:=Hd (show (fun W=>Blk W g3 223 (foC a)∧Blk W g4 223 (foC b)) w3.drew from ⟨R0.o.x3,R0.o.x4⟩);have HG:=Hd (show g3≠gw∧g4≠gw from ⟨by have:=R0.o.l3;have:=HW.o.X.lt;omega,by have:=R0.o.l4;have:=HW.o.X.lt;omega⟩);clear R0;refine wp_region_held_drew (S:=(fun W=>Blk W g3 223 (foC a)∧Blk W g4 223 (foC b))) (by kernel_rfl) C4.o (fun hHeld=>?_);generalize w3.drew=w4 at *;refine tk hHeld 0 ?_ ?_ (tk hHeld 1 ?_ ?_ (tk hHeld 2 ?_ ?_ (tk hHeld 3 ?_ ?_ (tk hHeld 4 ?_ ?_ (tk hHeld 5 ?_ ?_ (tk hHeld 7 ?_ ?_ (tk hHeld 8 ?_ ?_ (tk hHeld 9 ?_ ?_ (tk hHeld 10 ?_ ?_ (tk hHeld 11 ?_ ?_ (tk hHeld 12 ?_ ?_ ?_)))))))))));iterate 12
   rotate_left
   · intro W hSw;have p3:W.cell? ⟨g3,3,none⟩=some (.int .i64 a.fd):=hSw.1.cell 3;have p4:W.cell? ⟨g3,4,none⟩=some (.int .i64 a.fi):=hSw.1.cell 4;have q0:W.cell? ⟨g4,0,none⟩=some (.int .i64 b.dd):=hSw.2.cell 0;have q1:W.cell? ⟨g4,1,none⟩=some (.int .i64 b.di):=hSw.2.cell 1;have q2:W.cell? ⟨g4,2,none⟩=some (.string b.nm):=hSw.2.cell 2;go_simp;try (with_reducible rfl)
 refine bn [6] [(6,51)] (fun W=>Below w.heap.size w W) (fun _ x' _=>x' =fsV v.A v.n v.c) (fun A B=>Below A.heap.size A B) 6 hHeld DD.o rfl (by kernel_rfl) (by kernel_rfl) (fun A B hb=>⟨fun h=>⟨h.1.below hb,h.2.below hb⟩,fun h=>aa h hb,fun j x' h=>h⟩) ?steps ?fin;case steps=>
   refine aY.cons (i:=6) rfl (fun u W hSW hJW hpre K hK=>?_) ?_
   · dsimp only [bN,List.foldl];have x0:W.cell? ⟨gw,0,none⟩=some (.slice v.A v.n v.c):=(HW.o.below hJW).X.cell 0;go_simp;exact hK.o _ _ _ (by kernel_rfl) rfl (Below.refl _ _)
   exact aY.nil
 case fin=>
 intro uu W hHeld hJ hV;dsimp only [bN,List.foldl];have e6:=hV 6 rfl;simp only [e6];go_simp;have D5:=Hd hJ;have C5:=Hd hHeld;clear hV e6 hJ DD;refine rdy1 13 (fun K hK=>?_);go_simp;go_at_call 163;refine (FJ b.dd b.di a.fd a.fi b.nm (by have:=HNB.o.1;omega) ds v.A v.n v.c HW.o.O.few.2.2 HW.o.O.so.1 W (HW.o.below D5.o).files).mono ?_;intro e w6 hp;obtain ⟨A2,n2,c2,C2,nC2,cC2,kk,rfl,hb,hok⟩:=hp.uC;go_simp;have D6:=Hd (aa D5.o hb);have C6:=Hd (show (fun W=>Blk W g3 223 (foC a)∧Blk W g4 223 (foC b)) w6 from (fun h=>⟨h.1.below hb,h.2.below hb⟩) C5.o);have HP:=Hd (show kk=0→∃ ds2 cs2,aC w6 base (.slice A2 n2 c2) ds2∧SOk (ds2.map Dm.dv) ms∧ax lN w6 base (.slice C2 nC2 cC2) cs2∧cs2.length≤2∧(nC2=cs2.length→True) from fun hk0=>by
   obtain ⟨ds2,cs2,h1,h2,h3⟩:=hok hk0;have hlow:base≤W.heap.size:=Nat.le_trans HW.o.big D5.o.size;obtain ⟨h3,h4⟩:=h3;exact ⟨ds2,cs2,h1.low hlow,HW.o.O.so.files (HW.o.O.so.1.link h3) (h3.keep HW.o.O.so.1 (fun _=>False)) (fun _ _ _ hf=>hf),h2.low hlow,h4,fun _=>trivial⟩)
 refine hK.o _ _ C6.o (fun hHeld=>?_);clear hK K hb hok D5 C5;refine tk hHeld 14 ?_ ?_ (tk hHeld 15 ?_ ?_ (tk hHeld 16 ?_ ?_ ?_));iterate 3
   rotate_left
   · intro W hSw;go_simp;try (with_reducible rfl)
 refine rdy1 17 (fun K hK=>?_);go_simp;go_at_call 203;refine (mR base gw m u v ds ms fs A2 n2 c2 C2 nC2 cC2 kk (fun _=>True) w6 (HW.o.below D6.o) HP.o).mono ?_;rintro e w7 ⟨v7,d7,rfl,hw7,hb7,hf7,_,_⟩;go_simp;have W7:=Hd hw7;have B7:=Hd ((D6.o.mono HW.o.big).trans hb7);have C7:=Hd (show (fun W=>Blk W g3 223 (foC a)∧Blk W g4 223 (foC b)) w7 from ⟨hf7 _ _ _ C6.o.1 (by decide) HG.o.1,hf7 _ _ _ C6.o.2 (by decide) HG.o.2⟩);refine hK.o _ _ C7.o (fun hHeld=>?_);clear hK K hw7 hb7 hf7 C6 D6 HP;refine tk hHeld 18 ?_ ?_ ?_;rotate_left
 · intro W hSw;go_simp;try (with_reducible rfl)
 refine wpAnyH_done (by kernel_rfl) ?_ _;by_cases hkk:kk=0;case neg=>
   obtain ⟨p1,p2⟩:=aM hkk;clear hkk;go_wp2_with fail;go_ret;exact ⟨kk,v7,d7,ms,rfl,W7.o,B7.o⟩
 case pos=>
   subst hkk;have p3:w7.cell? ⟨g3,3,none⟩=some (.int .i64 a.fd):=C7.o.1.cell 3;have p4:w7.cell? ⟨g3,4,none⟩=some (.int .i64 a.fi):=C7.o.1.cell 4;go_wp2_with fail;refine (Dq base gw m u v7 d7 ms fs 1 1 rfl (by have:=HMM.o;omega) a.fd a.fi w7 W7.o).mono ?_;rintro e w8 ⟨rfl,hw8,hb8,_⟩;have W8:=Hd hw8;have B8:=Hd (B7.o.trans hb8);clear hw8 hb8 p3 p4;go_wp2_with fail;go_ret;exact ⟨0,v7,d7,ms,rfl,W8.o,B8.o⟩
end Go.Proofs.YtollifnnpihfdaaGreatDoor
