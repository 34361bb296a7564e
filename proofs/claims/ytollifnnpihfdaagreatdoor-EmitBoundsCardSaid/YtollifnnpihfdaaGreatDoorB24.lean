import Derived.Test.YtollifnnpihfdaaGreatDoorB23
set_option maxRecDepth 100000
set_option maxHeartbeats 64000000
set_option linter.all false
namespace Go.Proofs.YtollifnnpihfdaaGreatDoor
open Go.RowKit
structure RdW (w W:World) (t:TypeId) (cs:Array Value):Prop where
 b:Below w.heap.size w W
 x:Blk W w.heap.size t cs
theorem RdW.new (w:World) (t:TypeId) (cs:Array Value):RdW w (w.alloc (.cells cs t)) t cs:=⟨(Below.refl _ _).alloc (Nat.le_refl _) _,Blk.new w cs t⟩
theorem RdW.below {w W W' :World} {t:TypeId} {cs:Array Value} (h:RdW w W t cs) (hb:Below W.heap.size W W'):RdW w W' t cs:=⟨aa h.b hb,h.x.below hb⟩
theorem RdW.row {w W:World} {t:TypeId} {cs:Array Value} (h:RdW w W t cs) {g:Nat} (hg:w.heap.size < g) (ds:Array Value):RdW w (W.setRow g ds) t cs:=⟨ai h.b (by omega) ds,h.x.ah ds (by omega)⟩
theorem RdW.lt {w W:World} {t:TypeId} {cs:Array Value} (h:RdW w W t cs):w.heap.size < W.heap.size:=h.x.lt
theorem kF.any {o:Option Nd} {w w' :World} {e:Ending} (h:kF o w e w'):∃ (nd:Nd) (A:Option Addr) (n c:Nat) (b:Bool),e= .returned (.tuple #[.agg (ndC nd (.slice A n c)), .bool b])∧Below w.heap.size w w' :=by
 cases o with
 | none=>exact ⟨zNd,none,0,0,false,h.1,h.2⟩
 | some n=>obtain ⟨A,c,h1,_,h3,_⟩:=h;exact ⟨n,A,_,c,true,h1,h3⟩
theorem WkS.fnd {w:World} {base gw m:Nat} {u:Wu} {v:Wv} {ds:List Dm} {ms:List Mt} {fs:List Fo} (h:WkS w base gw u v ds ms fs m) {gF:Nat} (hF:v.F=some ⟨gF,0,none⟩) {k:Nat} (hk:k < fs.length) (j:Nat) (hj:j < 8):w.cell? ⟨gF,k * 8+j,none⟩=(EFo.C (fs[k]'hk))[j]? :=by
 obtain ⟨ad,e,_,h2⟩:=aU h.O.ff k hk;rw [hF] at e;injection e with e;subst e;have h3:=h2 j hj;rw [Addr.add_mid,Addr.add_mid] at h3;rw [← Nat.zero_add (k * 8)];exact h3
theorem WkS.files {w:World} {base gw m:Nat} {u:Wu} {v:Wv} {ds:List Dm} {ms:List Mt} {fs:List Fo} (h:WkS w base gw u v ds ms fs m):bZ w w.heap.size v.A ds:=h.O.fo.uy.1
theorem WkS.aR {w:World} {base gw m:Nat} {u:Wu} {v:Wv} {ds:List Dm} {ms:List Mt} {fs:List Fo} (h:WkS w base gw u v ds ms fs m):AtE EMt w w.heap.size v.Am ms:=aU h.O.mo
theorem wX (base gw m:Nat) (u:Wu) (v:Wv) (ds:List Dm) (ms:List Mt) (fs:List Fo) (d i want:Int) (w:World) (h:WkS w base gw u v ds ms fs m):
   Calls Tryz.prog 198 #[.pointer (some ⟨gw,0,none⟩),flV d i, .int .i64 want] w (WbP w):=by
 have HW:=Hd h;have S0:=Hd (RdW.new w 44 #[.int .i64 d, .int .i64 i]);clear h;go_in;go_upto_region 1 with fail;generalize w.alloc (.cells #[.int .i64 d, .int .i64 i] 44)=w0 at *;have S1:=Hd (show RdW w w0.drew 44 #[.int .i64 d, .int .i64 i] from S0.o.below (Below.refl w0.heap.size w0).drew);go_cut [7] (fun p wx=>∃ (gn:Nat) (nd:Nd) (An:Option Addr) (nn nc:Nat),p= .pointer (some ⟨gn,0,none⟩)∧w.heap.size < gn∧RdW w wx 44 #[.int .i64 d, .int .i64 i]∧Blk wx gn 145 (ndC nd (.slice An nn nc)));case first=>
   refine wp_region_held_drew (S:=(fun W=>RdW w W 44 #[.int .i64 d, .int .i64 i])) (by kernel_rfl) S1.o (fun hHeld=>?_);generalize w0.drew=wq at *;refine tk hHeld 0 ?_ ?_ (tk hHeld 1 ?_ ?_ (tk hHeld 2 ?_ ?_ (tk hHeld 3 ?_ ?_ (tk hHeld 4 ?_ ?_ (tk hHeld 5 ?_ ?_ (tk hHeld 6 ?_ ?_ ?_))))));iterate 7
     rotate_left
     · intro W hSw;have hh:=HW.o.below hSw.b;have x0:W.cell? ⟨gw,0,none⟩=some (.slice v.A v.n v.c):=hh.X.cell 0;clear hh;have u0:=hSw.x.cell 0;have u1:=hSw.x.cell 1;go_simp;try (with_reducible rfl)
   refine wpAnyH_ready (rs:= [7,11]) (by kernel_rfl) (by simp) ?_;refine AllReadyH.cons rfl (fun K hK=>?_) (AllReadyH.cons rfl (fun K hK=>?_) AllReadyH.nil)
   · go_simp;go_at_call 70;refine (bQ d i ds _ _ _ HW.o.O.few.2.2 wq (HW.o.below (S1.o).b).files).mono ?_;intro e we hp;obtain ⟨nd,An,nn,nc,bb,rfl,hb⟩:=hp.any;go_simp;have SA:=Hd (show RdW w we 44 #[.int .i64 d, .int .i64 i] from (S1.o).below hb);refine hK.o _ _ SA.o (fun hHeld=>?_);clear hK K;refine tk hHeld 8 ?_ ?_ (tk hHeld 9 ?_ ?_ (tk hHeld 10 ?_ ?_ ?_));iterate 3
       rotate_left
       · intro W hSw;go_simp;try (with_reducible rfl)
     have hba:=(Below.refl we.heap.size we).alloc (Nat.le_refl _) (.cells ndZ 145);have S2:=Hd (show RdW w (we.alloc (.cells ndZ 145)) 44 #[.int .i64 d, .int .i64 i] from (SA.o).below hba);have Q2:=Hd (Blk.new we ndZ 145);have HGB:=Hd (show w.heap.size+1≤we.heap.size from (SA.o).lt);refine rdy1 11 (fun K hK=>?_);go_simp;refine hK.o _ _ S2.o (fun hHeld=>?_);clear hK K;clear hba hb SA;generalize we.alloc (.cells ndZ 145)=Wz at *;generalize we.heap.size=gb at *;refine rdy1 12 (fun K hK=>?_);refine ag (by rfl) 145 (.tmp 7) (.tmp 18) (by rfl) Q2.o (ndC nd (.slice An nn nc)) ?_ ?_ (gY _ _) rfl (fF _ _ _ _) ?_
     · go_simp
     · go_simp
     have S3:=Hd (show RdW w (Wz.setRow gb (ndC nd (.slice An nn nc))) 44 #[.int .i64 d, .int .i64 i] from (S2.o).row HGB.o _);have Q3:=Hd (Q2.o.row (ndC nd (.slice An nn nc)));refine hK.o _ _ S3.o (fun hHeld=>?_);clear hK K;generalize Wz.setRow gb (ndC nd (.slice An nn nc))=Wy at *;refine tk hHeld 13 ?_ ?_ ?_;rotate_left
     · intro W hSw;go_simp;try (with_reducible rfl)
     refine wpAnyH_done (by kernel_rfl) ?_ _;go_wp2_with fail;go_meet;exact ⟨gb,nd,An,nn,nc,rfl,HGB.o,S3.o,Q3.o⟩
   · go_simp;have hba:=(Below.refl wq.heap.size wq).alloc (Nat.le_refl _) (.cells ndZ 145);have SA:=Hd (show RdW w (wq.alloc (.cells ndZ 145)) 44 #[.int .i64 d, .int .i64 i] from (S1.o).below hba);have QA:=Hd (Blk.new wq ndZ 145);have HGB:=Hd (show w.heap.size+1≤wq.heap.size from (S1.o).lt);refine hK.o _ _ SA.o (fun hHeld=>?_);clear hK K hba;generalize wq.alloc (.cells ndZ 145)=wqb at *;generalize wq.heap.size=gb at *;refine rdy1 7 (fun K hK=>?_);go_simp;go_at_call 70;refine (bQ d i ds _ _ _ HW.o.O.few.2.2 wqb (HW.o.below (SA.o).b).files).mono ?_;intro e we hp;obtain ⟨nd,An,nn,nc,bb,rfl,hb⟩:=hp.any;go_simp;have S2:=Hd (show RdW w we 44 #[.int .i64 d, .int .i64 i] from (SA.o).below hb);have Q2:=Hd (QA.o.below hb);refine hK.o _ _ S2.o (fun hHeld=>?_);clear hK K hb SA QA;refine tk hHeld 8 ?_ ?_ (tk hHeld 9 ?_ ?_ (tk hHeld 10 ?_ ?_ ?_));iterate 3
       rotate_left
       · intro W hSw;go_simp;try (with_reducible rfl)
     go_simp;refine rdy1 12 (fun K hK=>?_);refine ag (by rfl) 145 (.tmp 7) (.tmp 18) (by rfl) Q2.o (ndC nd (.slice An nn nc)) ?_ ?_ (gY _ _) rfl (fF _ _ _ _) ?_
     · go_simp
     · go_simp
     have S3:=Hd (show RdW w (we.setRow gb (ndC nd (.slice An nn nc))) 44 #[.int .i64 d, .int .i64 i] from (S2.o).row HGB.o _);have Q3:=Hd (Q2.o.row (ndC nd (.slice An nn nc)));refine hK.o _ _ S3.o (fun hHeld=>?_);clear hK K;generalize we.setRow gb (ndC nd (.slice An nn nc))=Wy at *;refine tk hHeld 13 ?_ ?_ ?_;rotate_left
     · intro W hSw;go_simp;try (with_reducible rfl)
     refine wpAnyH_done (by kernel_rfl) ?_ _;go_wp2_with fail;go_meet;exact ⟨gb,nd,An,nn,nc,rfl,HGB.o,S3.o,Q3.o⟩
 case rest=>
 obtain ⟨gn,nd,An,nn,nc,rfl,hgn,hs3,hq3⟩:=hcut;have HGN:=Hd hgn;have S3:=Hd hs3;have QN3:=Hd hq3;clear hgn hs3 hq3 S1;go_upto_region 2 with fail;have S5:=Hd (show RdW w wc.drew 44 #[.int .i64 d, .int .i64 i]∧Blk wc.drew gn 145 (ndC nd (.slice An nn nc)) from ⟨S3.o.below (Below.refl wc.heap.size wc).drew,QN3.o⟩);clear S3 QN3 S0;refine wp_region_held_drew (S:=(fun W=>RdW w W 44 #[.int .i64 d, .int .i64 i]∧Blk W gn 145 (ndC nd (.slice An nn nc)))) (by kernel_rfl) S5.o (fun hHeld=>?_);generalize wc.drew=w4 at *;refine tk hHeld 0 ?_ ?_ (tk hHeld 1 ?_ ?_ (tk hHeld 2 ?_ ?_ (tk hHeld 3 ?_ ?_ (tk hHeld 4 ?_ ?_ (tk hHeld 5 ?_ ?_ (tk hHeld 6 ?_ ?_ (tk hHeld 7 ?_ ?_ (tk hHeld 8 ?_ ?_ (tk hHeld 9 ?_ ?_ (tk hHeld 10 ?_ ?_ (tk hHeld 11 ?_ ?_ ?_)))))))))));iterate 12
   rotate_left
   · intro W hSw;have hh:=HW.o.below hSw.1.b;have x8:W.cell? ⟨gw,8,none⟩=some (.int .i64 u.p.eu):=hh.X.cell 8;have x10:W.cell? ⟨gw,10,none⟩=some (.int .i64 u.p.eg):=hh.X.cell 10;clear hh;have n0:W.cell? ⟨gn,0,none⟩=some (.int .i64 nd.ino):=hSw.2.cell 0;have n1:W.cell? ⟨gn,1,none⟩=some (.int .i64 nd.kind):=hSw.2.cell 1;have n2:W.cell? ⟨gn,2,none⟩=some (.int .i64 nd.mode):=hSw.2.cell 2;have n3:W.cell? ⟨gn,3,none⟩=some (.int .i64 nd.uid):=hSw.2.cell 3;have n4:W.cell? ⟨gn,4,none⟩=some (.int .i64 nd.gid):=hSw.2.cell 4;have n5:W.cell? ⟨gn,5,none⟩=some (.int .i64 nd.par):=hSw.2.cell 5;have n6:W.cell? ⟨gn,6,none⟩=some (.string nd.tg):=hSw.2.cell 6;have n7:W.cell? ⟨gn,7,none⟩=some (.slice An nn nc):=hSw.2.cell 7;go_simp;try (with_reducible rfl)
 refine rdy1 12 (fun K hK=>?_);go_simp;go_at_call 248;refine (NS nd (.slice An nn nc) u.p.eu u.p.eg want w4).mono ?_;rintro e w5 ⟨⟨b5,rfl⟩,hb⟩;go_simp;have S6:=Hd (show RdW w w5 44 #[.int .i64 d, .int .i64 i]∧Blk w5 gn 145 (ndC nd (.slice An nn nc)) from ⟨S5.o.1.below hb,S5.o.2.below hb⟩);refine hK.o _ _ S6.o (fun hHeld=>?_);clear hK K hb;refine tk hHeld 13 ?_ ?_ ?_;rotate_left
 · intro W hSw;go_simp;try (with_reducible rfl)
 refine wpAnyH_done (by kernel_rfl) ?_ _;go_wp2_with fail;go_ret;exact ⟨⟨_,rfl⟩,S6.o.1.b⟩
theorem Bw (base gw m:Nat) (u:Wu) (v:Wv) (ds:List Dm) (ms:List Mt) (fs:List Fo) (i:Int) (k:Nat) (hi:i=k) (hk:k < fs.length) (w:World) (h:WkS w base gw u v ds ms fs m):
   Calls Tryz.prog 202 #[.pointer (some ⟨gw,0,none⟩), .int .i64 i] w fun e w' =>e= .returned (.bool (bM (ds.map Dm.dv) (fs[k]'hk).fd (fs[k]'hk).fi))∧Below w.heap.size w w' :=by
 have HW:=Hd h;have HK:=Hd hk;subst hi;obtain ⟨gF,hF,_,_,hnF⟩:=aW h.O.ff (Nat.lt_of_le_of_lt (Nat.zero_le k) hk);have HF:=Hd hF;have k1:(k:Int) < (v.nF:Int):=by rw [hnF];omega
 have k2:(0:Int)≤(k:Int):=by omega
 clear h hF hnF;go_in;go_upto_region 1 with fail;have S1:=Hd (Below.refl w.heap.size w).drew;refine wp_region_held_drew (S:=(fun W=>Below w.heap.size w W)) (by kernel_rfl) S1.o (fun hHeld=>?_);generalize w.drew=w1 at *;refine tk hHeld 0 ?_ ?_ (tk hHeld 1 ?_ ?_ (tk hHeld 2 ?_ ?_ (tk hHeld 3 ?_ ?_ (tk hHeld 4 ?_ ?_ (tk hHeld 5 ?_ ?_ (tk hHeld 6 ?_ ?_ (tk hHeld 7 ?_ ?_ (tk hHeld 8 ?_ ?_ (tk hHeld 9 ?_ ?_ (tk hHeld 10 ?_ ?_ (tk hHeld 11 ?_ ?_ (tk hHeld 12 ?_ ?_ (tk hHeld 13 ?_ ?_ ?_)))))))))))));iterate 14
   rotate_left
   · intro W hSw;have hh:=HW.o.below hSw;have x0:W.cell? ⟨gw,0,none⟩=some (.slice v.A v.n v.c):=hh.X.cell 0;have x26:W.cell? ⟨gw,26,none⟩=some (.slice (some ⟨gF,0,none⟩) v.nF v.cF):=(by rw [← HF.o];exact hh.X.cell 26);have y3:W.cell? ⟨gF,k * 8+3,none⟩=some (.int .i64 (fs[k]'HK.o).fd):=hh.fnd HF.o HK.o 3 (by omega);have y4:W.cell? ⟨gF,k * 8+4,none⟩=some (.int .i64 (fs[k]'HK.o).fi):=hh.fnd HF.o HK.o 4 (by omega);clear hh;go_simp;try (with_reducible rfl)
 refine rdy1 14 (fun K hK=>?_);go_simp;go_at_call 67;refine (jG (fs[k]'HK.o).fd (fs[k]'HK.o).fi ds _ _ _ HW.o.O.few.2.2 w1 (HW.o.below S1.o).files).mono ?_;rintro e w2 ⟨rfl,hb⟩;go_simp;have S2:=Hd (aa S1.o hb);refine hK.o _ _ S2.o (fun hHeld=>?_);clear hK K hb;refine tk hHeld 15 ?_ ?_ ?_;rotate_left
 · intro W hSw;go_simp;try (with_reducible rfl)
 refine wpAnyH_done (by kernel_rfl) ?_ _;go_wp2_with fail;go_ret;exact ⟨rfl,S2.o⟩
def KP (ms:List Mt) (d i:Int) (w:World) (e:Ending) (w' :World):Prop:=∃ b:Bool,e= .returned (.bool b)∧(b=false→∀ x∈ms,¬ (x.od=d∧x.oi=i))∧Below w.heap.size w w'
theorem GN {ms:List Mt} {d i:Int} (h:CU ms d i=false):∀ x∈ms,¬ (x.od=d∧x.oi=i):=by
 unfold CU za at h;intro x hx he;cases hf:ms.find? (fun x=>x.od == d && x.oi == i) with
 | some y=>rw [hf] at h;cases h
 | none=>
  rw [List.find?_eq_none] at hf;exact hf x hx (by simp [he.1,he.2])
theorem GQ (base gw m:Nat) (u:Wu) (v:Wv) (ds:List Dm) (ms:List Mt) (fs:List Fo) (d i:Int) (w:World) (h:WkS w base gw u v ds ms fs m):
  Calls Tryz.prog 205 #[.pointer (some ⟨gw,0,none⟩),flV d i] w (KP ms d i w):=by
 have HW:=Hd h;have S0:=Hd (RdW.new w 44 #[.int .i64 d, .int .i64 i]);have HFL:=fun a b c d (W:World)=>vK a b c d W;clear h;go_in;go_upto_region 1 with fail;generalize w.alloc (.cells #[.int .i64 d, .int .i64 i] 44)=w0 at *;have S1:=Hd (S0.o.below (Below.refl w0.heap.size w0).drew);clear S0;refine wp_region_held_drew (S:=(fun W=>RdW w W 44 #[.int .i64 d, .int .i64 i])) (by kernel_rfl) S1.o (fun hHeld=>?_);generalize w0.drew=w1 at *;refine tk hHeld 0 ?_ ?_ (tk hHeld 1 ?_ ?_ (tk hHeld 2 ?_ ?_ (tk hHeld 3 ?_ ?_ (tk hHeld 4 ?_ ?_ (tk hHeld 5 ?_ ?_ ?_)))));iterate 6
  rotate_left
  · intro W hSw;have hh:=HW.o.below hSw.b;have x0:W.cell? ⟨gw,0,none⟩=some (.slice v.A v.n v.c):=hh.X.cell 0;have x1:W.cell? ⟨gw,1,none⟩=some (.slice v.Am v.nm v.cm):=hh.X.cell 1;clear hh;have u0:=hSw.x.cell 0;have u1:=hSw.x.cell 1;go_simp;try (with_reducible rfl)
 refine rdy1 6 (fun K hK=>?_);go_simp;go_at_call 106;refine (FN d i v.A v.n v.c ms v.Am v.nm v.cm HW.o.O.few.1 (by have:=HW.o.O.few.2.1;omega) w1 (HW.o.below S1.o.b).aR).mono ?_;rintro e w2 ⟨rfl,hb⟩;go_simp;have S2:=Hd (S1.o.below hb);refine hK.o _ _ S2.o (fun hHeld=>?_);clear hK K hb hHeld S1;refine wpAnyH_done (by kernel_rfl) ?_ _;cases hcv:CU ms d i with
 | true=>
  go_wp2_with fail;go_ret;exact ⟨true,rfl,fun h=>(nomatch h),S2.o.b⟩
 | false=>
  have HCV:=Hd (GN hcv);clear hcv;obtain ⟨ps,hps⟩:=(HW.o.below S2.o.b).O.tb;have HPS:=Hd hps;have HPN:=Hd (dz hps.own).1;clear hps;go_wp2_with fail;go_loopw [5] (fun ix wr=>∃ k t:Nat,k≤ps.length∧ix= .int .i64 k∧wr=w2.drewN t) (fun ix _=>ps.length - (intOf ix).toNat);case atStart=>exact ⟨0,0,Nat.zero_le _,rfl,rfl⟩
  case round=>
    obtain ⟨k,t,hk,rfl,rfl⟩:=hrel;have hh:=HW.o.below S2.o.b;have x4:w2.cell? ⟨gw,4,none⟩=some (.slice v.At v.nt v.ct):=hh.X.cell 4;have u0:=S2.o.x.cell 0;have u1:=S2.o.x.cell 1;clear hh;have WK:=Hd (bq hk (by have:=HPS.o.few;omega));have hn:=HPN.o;by_cases hlt:k < ps.length;case neg=>
     have k1:¬ (k:Int) < (v.nt:Int):=(by rw [hn];omega);clear hn;go_wp2_with fail;go_ret;exact ⟨false,rfl,fun _=>HCV.o,below_drewN S2.o.b _⟩
    case pos=>
     have k1:(k:Int) < (v.nt:Int):=(by rw [hn];omega);have k2:(0:Int)≤(k:Int):=(by omega);obtain ⟨am,ea,hab,hcx⟩:=aU HPS.o.own k hlt;obtain ⟨⟨m0,m1,m2,m3,m4,m5,m6⟩,m7,m8,m9,m10,m11,m12,m13⟩:=dV (a:=am.add (k * 14)) hcx;rw [ea] at x4;clear hcx hn ea m0 m1 m2 m3 m4 m5 m6 m7 m10 m11 m12 m13;generalize ps[k]=x at *;cases hb:flB x.p.cd x.p.ci d i with
     | true=>
      go_upto_region 6 with fail;go_quiet (fail);go_wp2_with fail;go_ret;exact ⟨true,rfl,fun h=>(nomatch h),below_drewN (below_drewN S2.o.b _) _⟩
     | false=>
      go_upto_region 6 with fail;go_quiet (fail);obtain ⟨wk1,wk2⟩:=WK.o;go_wp2_with fail;clear wk1 wk2;go_roundw;case rel=>exact ⟨k+1,t+nq,hlt,rfl,rfl⟩
      case measure=>exact aN hlt _ rfl
end Go.Proofs.YtollifnnpihfdaaGreatDoor
