import Derived.Test.YtollifnnpihfdaaGreatDoorB27
set_option maxRecDepth 100000
set_option maxHeartbeats 64000000
set_option linter.all false
namespace Go.Proofs.YtollifnnpihfdaaGreatDoor
open Go.RowKit
theorem nO.uC {R:List Dv→Prop} {w w' :World} {e:Ending} (h:nO R w e w'):∃ (A:Option Addr) (n c:Nat) (k:Int),e= .returned (.tuple #[fsV A n c, .int .i64 k])∧Below w.heap.size w w' ∧(k=0→∃ ds,aC w' w.heap.size (.slice A n c) ds∧R (ds.map Dm.dv)):=by
 obtain ⟨hb,⟨k,hk,e⟩ | ⟨A,n,c,ds,_,e,h1,h3⟩⟩:=h
 · exact ⟨none,0,0,k,e,hb,fun h=>absurd h hk⟩
 · exact ⟨A,n,c,0,e,hb,fun _=>⟨ds,h1,h3⟩⟩
theorem RdW.cell {w W:World} {t:TypeId} {cs:Array Value} (h:RdW w W t cs) {g:Nat} (hg:w.heap.size < g) (i:Nat) (x:Value):RdW w (W.setCell ⟨g,i,none⟩ x) t cs:=
 ⟨h.b.setCell (p:=⟨g,i,none⟩) (by show w.heap.size≤g;omega) x,h.x.af _ (by show w.heap.size≠g;omega)⟩
theorem iO {w:World} {a b:Nat} {t t2:TypeId} {cs ds:Array Value} (h:Blk w a t cs) (k:Blk w b t2 ds) (ht:t≠t2):a≠b:=fun e=>by
 have h1:w.heap[a]? =some (.cells cs t (0,0)):=h;have h2:w.heap[b]? =some (.cells ds t2 (0,0)):=k;rw [e,h2] at h1;injection h1 with h1;injection h1 with h3 h4;exact ht h4.symm
theorem GR (base gw m:Nat) (u:Wu) (v:Wv) (ds:List Dm) (ms:List Mt) (fs:List Fo) (hn:0 < fs.length) (w:World) (h:WkS w base gw u v ds ms fs m):
  Calls Tryz.prog 143 #[.pointer (some ⟨gw,0,none⟩)] w (WkP w base gw u fs m):=by
 have HW:=Hd h;have H0:=Hd hn;obtain ⟨gF,hF,_,_,hnF⟩:=aW h.O.ff hn;have HF:=Hd hF;have k1:(0:Int) < (v.nF:Int):=by rw [hnF];omega
 have k1a:0 < v.nF:=by omega
 have k1b:v.nF≠0:=by omega
 have k1c:¬ v.nF≤0:=by omega
 have HNM:=Hd (h.O.fk _ (List.getElem_mem H0.o));obtain ⟨a,ha⟩:∃ a,a=fs[0]'H0.o:=⟨_,rfl⟩;have HE0:=Hd ha.symm;have HNA:=Hd (show a.nm.size≤12∧a.pa.size≤640 by rw [ha];exact HNM.o);clear ha;have x26:w.cell? ⟨gw,26,none⟩=some (.slice (some ⟨gF,0,none⟩) v.nF v.cF):=by rw [← HF.o];exact h.X.cell 26
 have y00:w.cell? ⟨gF,0,none⟩=some (.int .i64 a.dd):=by have h9:=h.fnd HF.o H0.o 0 (by omega);rw [HE0.o] at h9;exact h9
 have y01:w.cell? ⟨gF,1,none⟩=some (.int .i64 a.di):=by have h9:=h.fnd HF.o H0.o 1 (by omega);rw [HE0.o] at h9;exact h9
 have y02:w.cell? ⟨gF,2,none⟩=some (.string a.nm):=by have h9:=h.fnd HF.o H0.o 2 (by omega);rw [HE0.o] at h9;exact h9
 have y03:w.cell? ⟨gF,3,none⟩=some (.int .i64 a.fd):=by have h9:=h.fnd HF.o H0.o 3 (by omega);rw [HE0.o] at h9;exact h9
 have y04:w.cell? ⟨gF,4,none⟩=some (.int .i64 a.fi):=by have h9:=h.fnd HF.o H0.o 4 (by omega);rw [HE0.o] at h9;exact h9
 have y05:w.cell? ⟨gF,5,none⟩=some (.bool a.ex):=by have h9:=h.fnd HF.o H0.o 5 (by omega);rw [HE0.o] at h9;exact h9
 have y06:w.cell? ⟨gF,6,none⟩=some (.bool a.sl):=by have h9:=h.fnd HF.o H0.o 6 (by omega);rw [HE0.o] at h9;exact h9
 have y07:w.cell? ⟨gF,7,none⟩=some (.string a.pa):=by have h9:=h.fnd HF.o H0.o 7 (by omega);rw [HE0.o] at h9;exact h9
 have S0:=Hd (RdW.new w 223 (foC a));clear h hn hF hnF HNM;go_in;go_upto_region 2 with fail;clear x26 k1 k1a k1b k1c y00 y01 y02 y03 y04 y05 y06 y07;generalize w.alloc (.cells (foC a) 223)=w0 at *;have b5:w0.cell? ⟨w.heap.size,5,none⟩=some (.bool a.ex):=S0.o.x.cell 5;cases hc:a.ex;case false=>
  rw [hc] at b5;go_wp2_with fail;go_ret;exact ⟨_,v,ds,ms,rfl,HW.o.below S0.o.b,S0.o.b.mono HW.o.big⟩
 rw [hc] at b5;clear hc;go_upto_region 4 with fail;clear b5;have S1:=Hd (show RdW w w0.drew 223 (foC a) from S0.o.below (Below.refl w0.heap.size w0).drew);go_cut [4] (fun p wx=>∃ (gn:Nat) (nd:Nd) (An:Option Addr) (nn nc:Nat),p= .pointer (some ⟨gn,0,none⟩)∧w.heap.size < gn∧RdW w wx 223 (foC a)∧Blk wx gn 145 (ndC nd (.slice An nn nc)));case first=>
  refine wp_region_held_drew (S:=(fun W=>RdW w W 223 (foC a))) (by kernel_rfl) S1.o (fun hHeld=>?_);generalize w0.drew=w1 at *;refine tk hHeld 0 ?_ ?_ (tk hHeld 1 ?_ ?_ (tk hHeld 2 ?_ ?_ (tk hHeld 3 ?_ ?_ (tk hHeld 4 ?_ ?_ (tk hHeld 5 ?_ ?_ (tk hHeld 6 ?_ ?_ (tk hHeld 7 ?_ ?_ ?_)))))));iterate 8
    rotate_left
    · intro W hSw;have hh:=HW.o.below hSw.b;have x0:W.cell? ⟨gw,0,none⟩=some (.slice v.A v.n v.c):=hh.X.cell 0;have p3:W.cell? ⟨w.heap.size,3,none⟩=some (.int .i64 a.fd):=hSw.x.cell 3;have p4:W.cell? ⟨w.heap.size,4,none⟩=some (.int .i64 a.fi):=hSw.x.cell 4;clear hh;go_simp;try (with_reducible rfl)
  refine wpAnyH_ready (rs:= [8,12]) (by kernel_rfl) (by simp) ?_;refine AllReadyH.cons rfl (fun K hK=>?_) (AllReadyH.cons rfl (fun K hK=>?_) AllReadyH.nil)
  · go_simp;go_at_call 70;refine (bQ a.fd a.fi ds _ _ _ HW.o.O.few.2.2 w1 (HW.o.below (S1.o).b).files).mono ?_;intro e we hp;obtain ⟨nd,An,nn,nc,bb,rfl,hb⟩:=hp.any;go_simp;have SA:=Hd (show RdW w we 223 (foC a) from (S1.o).below hb);refine hK.o _ _ SA.o (fun hHeld=>?_);clear hK K;refine tk hHeld 9 ?_ ?_ (tk hHeld 10 ?_ ?_ (tk hHeld 11 ?_ ?_ ?_));iterate 3
      rotate_left
      · intro W hSw;go_simp;try (with_reducible rfl)
    have hba:=(Below.refl we.heap.size we).alloc (Nat.le_refl _) (.cells ndZ 145);have S2:=Hd (show RdW w (we.alloc (.cells ndZ 145)) 223 (foC a) from (SA.o).below hba);have Q2:=Hd (Blk.new we ndZ 145);have HGB:=Hd (show w.heap.size+1≤we.heap.size from (SA.o).lt);refine rdy1 12 (fun K hK=>?_);go_simp;refine hK.o _ _ S2.o (fun hHeld=>?_);clear hK K;clear hba hb SA;generalize we.alloc (.cells ndZ 145)=Wz at *;generalize we.heap.size=gb at *;refine rdy1 13 (fun K hK=>?_);refine ag (by rfl) 145 (.tmp 4) (.tmp 27) (by rfl) Q2.o (ndC nd (.slice An nn nc)) ?_ ?_ (gY _ _) rfl (fF _ _ _ _) ?_
    · go_simp
    · go_simp
    have S3:=Hd (show RdW w (Wz.setRow gb (ndC nd (.slice An nn nc))) 223 (foC a) from (S2.o).row HGB.o _);have Q3:=Hd (Q2.o.row (ndC nd (.slice An nn nc)));refine hK.o _ _ S3.o (fun hHeld=>?_);clear hK K;generalize Wz.setRow gb (ndC nd (.slice An nn nc))=Wy at *;refine tk hHeld 14 ?_ ?_ ?_;rotate_left
    · intro W hSw;go_simp;try (with_reducible rfl)
    refine wpAnyH_done (by kernel_rfl) ?_ _;go_wp2_with fail;go_meet;exact ⟨gb,nd,An,nn,nc,rfl,HGB.o,S3.o,Q3.o⟩
  · go_simp;have hba:=(Below.refl w1.heap.size w1).alloc (Nat.le_refl _) (.cells ndZ 145);have SA:=Hd (show RdW w (w1.alloc (.cells ndZ 145)) 223 (foC a) from (S1.o).below hba);have QA:=Hd (Blk.new w1 ndZ 145);have HGB:=Hd (show w.heap.size+1≤w1.heap.size from (S1.o).lt);refine hK.o _ _ SA.o (fun hHeld=>?_);clear hK K hba;generalize w1.alloc (.cells ndZ 145)=w1b at *;generalize w1.heap.size=gb at *;refine rdy1 8 (fun K hK=>?_);go_simp;go_at_call 70;refine (bQ a.fd a.fi ds _ _ _ HW.o.O.few.2.2 w1b (HW.o.below (SA.o).b).files).mono ?_;intro e we hp;obtain ⟨nd,An,nn,nc,bb,rfl,hb⟩:=hp.any;go_simp;have S2:=Hd (show RdW w we 223 (foC a) from (SA.o).below hb);have Q2:=Hd (QA.o.below hb);refine hK.o _ _ S2.o (fun hHeld=>?_);clear hK K hb SA QA;generalize we=Wz at *;refine tk hHeld 9 ?_ ?_ (tk hHeld 10 ?_ ?_ (tk hHeld 11 ?_ ?_ ?_));iterate 3
      rotate_left
      · intro W hSw;go_simp;try (with_reducible rfl)
    refine rdy1 13 (fun K hK=>?_);refine ag (by rfl) 145 (.tmp 4) (.tmp 27) (by rfl) Q2.o (ndC nd (.slice An nn nc)) ?_ ?_ (gY _ _) rfl (fF _ _ _ _) ?_
    · go_simp
    · go_simp
    have S3:=Hd (show RdW w (Wz.setRow gb (ndC nd (.slice An nn nc))) 223 (foC a) from (S2.o).row HGB.o _);have Q3:=Hd (Q2.o.row (ndC nd (.slice An nn nc)));refine hK.o _ _ S3.o (fun hHeld=>?_);clear hK K;generalize Wz.setRow gb (ndC nd (.slice An nn nc))=Wy at *;refine tk hHeld 14 ?_ ?_ ?_;rotate_left
    · intro W hSw;go_simp;try (with_reducible rfl)
    refine wpAnyH_done (by kernel_rfl) ?_ _;go_wp2_with fail;go_meet;exact ⟨gb,nd,An,nn,nc,rfl,HGB.o,S3.o,Q3.o⟩
 case rest=>
 obtain ⟨gn,nd,An,nn,nc,rfl,hgn,hs3,hq3⟩:=hcut;have HGN:=Hd hgn;have S3:=Hd hs3;have QN3:=Hd hq3;clear hgn hs3 hq3 S1;clear S0;have x19:wc.cell? ⟨gw,19,none⟩=some (.int .i64 u.z):=(HW.o.below S3.o.b).X.cell 19;go_upto_if 34 with fail;generalize hwc:wc=W3 at *;clear hwc;go_cut [] (fun wx=>∃ nd2:Nd,RdW w wx 223 (foC a)∧Blk wx gn 145 (ndC nd2 (.slice An nn nc)));case first=>
  by_cases hz:u.z=14;case pos=>
    obtain ⟨p1,p2⟩:=bI hz;clear hz;have x8:W3.cell? ⟨gw,8,none⟩=some (.int .i64 u.p.eu):=(HW.o.below S3.o.b).X.cell 8;have n3:W3.cell? ⟨gn,3,none⟩=some (.int .i64 nd.uid):=QN3.o.cell 3;go_upto_region 6 with fail;clear p1 p2 x19;go_cut [50] (fun bv wx=>∃ (bb:Bool) (t:Nat),bv= .bool bb∧wx=W3.drewN t);case first=>
      by_cases h1:u.p.eu=0;case pos=>
        obtain ⟨p1,p2⟩:=bI h1;clear h1;go_quiet (fail);go_wp2_with fail;go_meet;exact ⟨_,_,rfl,rfl⟩
      case neg=>
        obtain ⟨p1,p2⟩:=aM h1;clear h1;go_quiet (fail);go_wp2_with fail;go_meet;exact ⟨_,_,rfl,rfl⟩
    case rest=>
    obtain ⟨bb,t,rfl,rfl⟩:=hcut;clear x8 n3;have S4:=Hd (show RdW w (W3.drewN t) 223 (foC a) from ⟨below_drewN S3.o.b _,S3.o.x⟩);have Q4:=Hd (show Blk (W3.drewN t) gn 145 (ndC nd (.slice An nn nc)) from QN3.o);clear S3 QN3;generalize W3.drewN t=w4 at *;cases bb;case true=>
      go_wp2_with fail;go_ret;exact ⟨_,v,ds,ms,rfl,HW.o.below S4.o.b,S4.o.b.mono HW.o.big⟩
    have x20:w4.cell? ⟨gw,20,none⟩=some (.int .i64 (u.a 0)):=(HW.o.below S4.o.b).X.cell 20;have c2:=Q4.o.cell 2;have f2:=Q4.o.free 2;go_wp2_with fail;go_meet;exact ⟨{ nd with mode:=u.a 0 },S4.o.cell HGN.o 2 _,Q4.o.put 2 _⟩
  case neg=>
    obtain ⟨p1,p2⟩:=aM hz;clear hz;have x8:W3.cell? ⟨gw,8,none⟩=some (.int .i64 u.p.eu):=(HW.o.below S3.o.b).X.cell 8;by_cases h1:u.p.eu=0;case neg=>
      obtain ⟨p3,p4⟩:=aM h1;clear h1;go_wp2_with fail;go_ret;exact ⟨_,v,ds,ms,rfl,HW.o.below S3.o.b,S3.o.b.mono HW.o.big⟩
    obtain ⟨p3,p4⟩:=bI h1;clear h1;go_upto_region 11 with fail;clear p1 p2 p3 p4 x8 x19;have S4:=Hd (S3.o.below (Below.refl W3.heap.size W3).drew);have Q4:=Hd (QN3.o.below (Below.refl W3.heap.size W3).drew);clear S3 QN3;refine wp_region_held_drew (S:=(fun W=>RdW w W 223 (foC a))) (by kernel_rfl) S4.o (fun hHeld=>?_);generalize W3.drew=w4 at *;refine tk hHeld 0 ?_ ?_ (tk hHeld 1 ?_ ?_ (tk hHeld 2 ?_ ?_ (tk hHeld 3 ?_ ?_ (tk hHeld 4 ?_ ?_ (tk hHeld 5 ?_ ?_ (tk hHeld 6 ?_ ?_ (tk hHeld 7 ?_ ?_ (tk hHeld 8 ?_ ?_ (tk hHeld 9 ?_ ?_ (tk hHeld 10 ?_ ?_ (tk hHeld 11 ?_ ?_ (tk hHeld 12 ?_ ?_ ?_))))))))))));iterate 13
      rotate_left
      · intro W hSw;have hh:=HW.o.below hSw.b;have x20:W.cell? ⟨gw,20,none⟩=some (.int .i64 (u.a 0)):=hh.X.cell 20;have x21:W.cell? ⟨gw,21,none⟩=some (.int .i64 (u.a 1)):=hh.X.cell 21;clear hh;go_simp;try (with_reducible rfl)
    have c3:=Q4.o.cell 3;have f3:=Q4.o.free 3;have S5:=Hd (S4.o.cell HGN.o 3 (.int .i64 (u.a 0)));have Q5:=Hd (show Blk (w4.setCell ⟨gn,3,none⟩ (.int .i64 (u.a 0))) gn 145 (ndC { nd with uid:=u.a 0 } (.slice An nn nc)) from Q4.o.put 3 _);refine rdy1 13 (fun K hK=>?_);go_simp;refine hK.o _ _ S5.o (fun hHeld=>?_);clear hK K;clear c3 f3 S4 Q4;generalize w4.setCell ⟨gn,3,none⟩ (.int .i64 (u.a 0))=w5 at *;refine tk hHeld 14 ?_ ?_ ?_;rotate_left
    · intro W hSw;go_simp;try (with_reducible rfl)
    have c4:=Q5.o.cell 4;have f4:=Q5.o.free 4;have S6:=Hd (S5.o.cell HGN.o 4 (.int .i64 (u.a 1)));have Q6:=Hd (show Blk (w5.setCell ⟨gn,4,none⟩ (.int .i64 (u.a 1))) gn 145 (ndC { { nd with uid:=u.a 0 } with gid:=u.a 1 } (.slice An nn nc)) from Q5.o.put 4 _);refine rdy1 15 (fun K hK=>?_);go_simp;refine hK.o _ _ S6.o (fun hHeld=>?_);clear hK K;clear c4 f4 S5 Q5;generalize w5.setCell ⟨gn,4,none⟩ (.int .i64 (u.a 1))=w6 at *;refine wpAnyH_done (by kernel_rfl) ?_ _;go_wp2_with fail;go_meet;exact ⟨_,S6.o,Q6.o⟩
 case rest=>
 obtain ⟨nd2,hr,hq⟩:=hcut;have S6:=Hd (show RdW w wc 223 (foC a)∧Blk wc gn 145 (ndC nd2 (.slice An nn nc)) from ⟨hr,hq⟩);clear hr hq S3 QN3 x19;generalize hwc:wc=w6 at *;clear hwc;go_upto_region 12 with fail;have S1:=Hd (show (RdW w w6.drew 223 (foC a)∧Blk w6.drew gn 145 (ndC nd2 (.slice An nn nc))) from ⟨S6.o.1.below (Below.refl w6.heap.size w6).drew,S6.o.2.below (Below.refl w6.heap.size w6).drew⟩);go_cut [6,7] (fun p q wx=>∃ (go:Nat) (A2:Option Addr) (n2 c2:Nat) (kk:Int),p= .pointer (some ⟨go,0,none⟩)∧q= .int .i64 kk∧(RdW w wx 223 (foC a)∧Blk wx gn 145 (ndC nd2 (.slice An nn nc)))∧Blk wx go 28 #[.slice A2 n2 c2]∧(kk=0→∃ ds2,aC wx w.heap.size (.slice A2 n2 c2) ds2∧yL (ds.map Dm.dv) a.fd a.fi nd2.mode nd2.uid nd2.gid (ds2.map Dm.dv)));case first=>
  refine wp_region_held_drew (S:=(fun W=>(RdW w W 223 (foC a)∧Blk W gn 145 (ndC nd2 (.slice An nn nc))))) (by kernel_rfl) S1.o (fun hHeld=>?_);generalize w6.drew=w1 at *;refine tk hHeld 0 ?_ ?_ (tk hHeld 1 ?_ ?_ (tk hHeld 2 ?_ ?_ (tk hHeld 3 ?_ ?_ (tk hHeld 4 ?_ ?_ (tk hHeld 5 ?_ ?_ (tk hHeld 6 ?_ ?_ (tk hHeld 7 ?_ ?_ (tk hHeld 8 ?_ ?_ (tk hHeld 9 ?_ ?_ (tk hHeld 10 ?_ ?_ (tk hHeld 11 ?_ ?_ (tk hHeld 12 ?_ ?_ (tk hHeld 13 ?_ ?_ ?_)))))))))))));iterate 14
    rotate_left
    · intro W hSw;have hh:=HW.o.below hSw.1.b;have x0:W.cell? ⟨gw,0,none⟩=some (.slice v.A v.n v.c):=hh.X.cell 0;have p3:W.cell? ⟨w.heap.size,3,none⟩=some (.int .i64 a.fd):=hSw.1.x.cell 3;have p4:W.cell? ⟨w.heap.size,4,none⟩=some (.int .i64 a.fi):=hSw.1.x.cell 4;have n2:W.cell? ⟨gn,2,none⟩=some (.int .i64 nd2.mode):=hSw.2.cell 2;have n3:W.cell? ⟨gn,3,none⟩=some (.int .i64 nd2.uid):=hSw.2.cell 3;have n4:W.cell? ⟨gn,4,none⟩=some (.int .i64 nd2.gid):=hSw.2.cell 4;clear hh;go_simp;try (with_reducible rfl)
  refine wpAnyH_ready (rs:= [14,18]) (by kernel_rfl) (by simp) ?_;refine AllReadyH.cons rfl (fun K hK=>?_) (AllReadyH.cons rfl (fun K hK=>?_) AllReadyH.nil)
  · go_simp;go_at_call 167;refine (Gc a.fd a.fi nd2.mode nd2.uid nd2.gid ds v.A v.n v.c HW.o.O.few.2.2 HW.o.O.so.1 w1 (HW.o.below (S1.o).1.b).files).mono ?_;intro e we hp;obtain ⟨A2,n2,c2,kk,rfl,hb,hok⟩:=hp.uC;have hws:=(S1.o).1.b.size;have pY:=Hd (show kk=0→∃ ds2,aC we w.heap.size (.slice A2 n2 c2) ds2∧yL (ds.map Dm.dv) a.fd a.fi nd2.mode nd2.uid nd2.gid (ds2.map Dm.dv) from fun hk=>by obtain ⟨d2,h1,h2⟩:=hok hk;exact ⟨d2,h1.low hws,h2⟩);clear hok hws;go_simp;have SA:=Hd (show (RdW w we 223 (foC a)∧Blk we gn 145 (ndC nd2 (.slice An nn nc))) from ⟨(S1.o).1.below hb,(S1.o).2.below hb⟩);refine hK.o _ _ SA.o (fun hHeld=>?_);clear hK K;refine tk hHeld 15 ?_ ?_ (tk hHeld 16 ?_ ?_ (tk hHeld 17 ?_ ?_ ?_));iterate 3
      rotate_left
      · intro W hSw;go_simp;try (with_reducible rfl)
    have hba:=(Below.refl we.heap.size we).alloc (Nat.le_refl _) (.cells #[.slice none 0 0] 28);have S2:=Hd (show (RdW w (we.alloc (.cells #[.slice none 0 0] 28)) 223 (foC a)∧Blk (we.alloc (.cells #[.slice none 0 0] 28)) gn 145 (ndC nd2 (.slice An nn nc))) from ⟨(SA.o).1.below hba,(SA.o).2.below hba⟩);have Q2:=Hd (Blk.new we #[.slice none 0 0] 28);have HGB:=Hd (show w.heap.size+1≤we.heap.size from (SA.o).1.lt);have HOK:=Hd (show kk=0→∃ ds2,aC (we.alloc (.cells #[.slice none 0 0] 28)) w.heap.size (.slice A2 n2 c2) ds2∧yL (ds.map Dm.dv) a.fd a.fi nd2.mode nd2.uid nd2.gid (ds2.map Dm.dv) from fun hk=>by obtain ⟨d2,h1,h2⟩:=pY.o hk;exact ⟨d2,h1.below hba,h2⟩);clear pY;refine rdy1 18 (fun K hK=>?_);go_simp;refine hK.o _ _ S2.o (fun hHeld=>?_);clear hK K;clear hba hb SA;generalize we.alloc (.cells #[.slice none 0 0] 28)=Wz at *;generalize we.heap.size=gb at *;refine rdy1 19 (fun K hK=>?_);refine ag (by rfl) 28 (.tmp 6) (.tmp 94) (by rfl) Q2.o #[.slice A2 n2 c2] ?_ ?_ (bR _) rfl (bg _ _ _) ?_
    · go_simp
    · go_simp
    have S3:=Hd (show (RdW w (Wz.setRow gb #[.slice A2 n2 c2]) 223 (foC a)∧Blk (Wz.setRow gb #[.slice A2 n2 c2]) gn 145 (ndC nd2 (.slice An nn nc))) from ⟨(S2.o).1.row HGB.o _,(S2.o).2.ah _ (iO (S2.o).2 Q2.o (by decide))⟩);have Q3:=Hd (Q2.o.row #[.slice A2 n2 c2]);have mU:=Hd (show kk=0→∃ ds2,aC (Wz.setRow gb #[.slice A2 n2 c2]) w.heap.size (.slice A2 n2 c2) ds2∧yL (ds.map Dm.dv) a.fd a.fi nd2.mode nd2.uid nd2.gid (ds2.map Dm.dv) from fun hk=>by obtain ⟨d2,h1,h2⟩:=HOK.o hk;exact ⟨d2,h1.lu Q2.o (aA Wz gb _) (by decide) (by decide) (by decide),h2⟩);refine hK.o _ _ S3.o (fun hHeld=>?_);clear hK K;generalize Wz.setRow gb #[.slice A2 n2 c2]=Wy at *;refine tk hHeld 20 ?_ ?_ ?_;rotate_left
    · intro W hSw;go_simp;try (with_reducible rfl)
    refine wpAnyH_done (by kernel_rfl) ?_ _;go_wp2_with fail;go_meet;exact ⟨gb,A2,n2,c2,kk,rfl,rfl,S3.o,Q3.o,mU.o⟩
  · go_simp;have hba:=(Below.refl w1.heap.size w1).alloc (Nat.le_refl _) (.cells #[.slice none 0 0] 28);have SA:=Hd (show (RdW w (w1.alloc (.cells #[.slice none 0 0] 28)) 223 (foC a)∧Blk (w1.alloc (.cells #[.slice none 0 0] 28)) gn 145 (ndC nd2 (.slice An nn nc))) from ⟨(S1.o).1.below hba,(S1.o).2.below hba⟩);have QA:=Hd (Blk.new w1 #[.slice none 0 0] 28);have HGB:=Hd (show w.heap.size+1≤w1.heap.size from (S1.o).1.lt);refine hK.o _ _ SA.o (fun hHeld=>?_);clear hK K hba;generalize w1.alloc (.cells #[.slice none 0 0] 28)=w1b at *;generalize w1.heap.size=gb at *;refine rdy1 14 (fun K hK=>?_);go_simp;go_at_call 167;refine (Gc a.fd a.fi nd2.mode nd2.uid nd2.gid ds v.A v.n v.c HW.o.O.few.2.2 HW.o.O.so.1 w1b (HW.o.below (SA.o).1.b).files).mono ?_;intro e we hp;obtain ⟨A2,n2,c2,kk,rfl,hb,hok⟩:=hp.uC;have hws:=(SA.o).1.b.size;have pY:=Hd (show kk=0→∃ ds2,aC we w.heap.size (.slice A2 n2 c2) ds2∧yL (ds.map Dm.dv) a.fd a.fi nd2.mode nd2.uid nd2.gid (ds2.map Dm.dv) from fun hk=>by obtain ⟨d2,h1,h2⟩:=hok hk;exact ⟨d2,h1.low hws,h2⟩);clear hok hws;go_simp;have S2:=Hd (show (RdW w we 223 (foC a)∧Blk we gn 145 (ndC nd2 (.slice An nn nc))) from ⟨(SA.o).1.below hb,(SA.o).2.below hb⟩);have Q2:=Hd (QA.o.below hb);have HOK:=pY;clear pY;refine hK.o _ _ S2.o (fun hHeld=>?_);clear hK K hb SA QA;generalize we=Wz at *;refine tk hHeld 15 ?_ ?_ (tk hHeld 16 ?_ ?_ (tk hHeld 17 ?_ ?_ ?_));iterate 3
      rotate_left
      · intro W hSw;go_simp;try (with_reducible rfl)
    refine rdy1 19 (fun K hK=>?_);refine ag (by rfl) 28 (.tmp 6) (.tmp 94) (by rfl) Q2.o #[.slice A2 n2 c2] ?_ ?_ (bR _) rfl (bg _ _ _) ?_
    · go_simp
    · go_simp
    have S3:=Hd (show (RdW w (Wz.setRow gb #[.slice A2 n2 c2]) 223 (foC a)∧Blk (Wz.setRow gb #[.slice A2 n2 c2]) gn 145 (ndC nd2 (.slice An nn nc))) from ⟨(S2.o).1.row HGB.o _,(S2.o).2.ah _ (iO (S2.o).2 Q2.o (by decide))⟩);have Q3:=Hd (Q2.o.row #[.slice A2 n2 c2]);have mU:=Hd (show kk=0→∃ ds2,aC (Wz.setRow gb #[.slice A2 n2 c2]) w.heap.size (.slice A2 n2 c2) ds2∧yL (ds.map Dm.dv) a.fd a.fi nd2.mode nd2.uid nd2.gid (ds2.map Dm.dv) from fun hk=>by obtain ⟨d2,h1,h2⟩:=HOK.o hk;exact ⟨d2,h1.lu Q2.o (aA Wz gb _) (by decide) (by decide) (by decide),h2⟩);refine hK.o _ _ S3.o (fun hHeld=>?_);clear hK K;generalize Wz.setRow gb #[.slice A2 n2 c2]=Wy at *;refine tk hHeld 20 ?_ ?_ ?_;rotate_left
    · intro W hSw;go_simp;try (with_reducible rfl)
    refine wpAnyH_done (by kernel_rfl) ?_ _;go_wp2_with fail;go_meet;exact ⟨gb,A2,n2,c2,kk,rfl,rfl,S3.o,Q3.o,mU.o⟩
 case rest=>
 obtain ⟨go,A2,n2,c2,kk,rfl,rfl,hs8,hq8,BC⟩:=hcut;have S8:=Hd hs8;have Q8:=Hd hq8;have mU:=Hd BC;clear hs8 hq8 BC S1 S6;generalize hwc:wc=w8 at *;clear hwc;have o0:w8.cell? ⟨go,0,none⟩=some (.slice A2 n2 c2):=Q8.o.cell 0;have W8:=Hd (HW.o.below S8.o.1.b);have B8:=Hd (S8.o.1.b.mono HW.o.big);go_wp2_with fail;clear o0;refine (mR base gw m u v ds ms fs A2 n2 c2 none 0 0 kk (fun _=>True) w8 W8.o (fun hk=>by obtain ⟨d2,h1,h2⟩:=mU.o hk;exact ⟨d2, [],h1.low HW.o.big,HW.o.O.so.files (HW.o.O.so.1.lM h2) (h2.keep HW.o.O.so.1 (fun _=>False)) (fun _ _ _ hf=>hf),ax.nil _ _,Nat.zero_le _,fun _=>trivial⟩)).mono ?_;rintro e w9 ⟨v9,d9,rfl,hw9,hb9,_,_,_⟩;have W9:=Hd hw9;have B9:=Hd (B8.o.trans hb9);clear hw9 hb9;go_wp2_with fail;go_ret;exact ⟨kk,v9,d9,ms,rfl,W9.o,B9.o⟩
end Go.Proofs.YtollifnnpihfdaaGreatDoor
