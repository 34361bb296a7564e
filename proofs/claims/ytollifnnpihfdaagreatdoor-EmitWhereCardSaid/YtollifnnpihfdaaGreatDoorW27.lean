import Derived.Test.YtollifnnpihfdaaGreatDoorW26
set_option maxRecDepth 100000
set_option maxHeartbeats 64000000
set_option linter.all false
namespace Go.Proofs.YtollifnnpihfdaaGreatDoor
open Go.RowKit
structure RdW (w W:World) (t:TypeId) (cs:Array Value):Prop where
 b:Below w.heap.size w W
 x:Blk W w.heap.size t cs
theorem RdW.new (w:World) (t:TypeId) (cs:Array Value):RdW w (w.alloc (.cells cs t)) t cs:=⟨(Below.refl _ _).alloc (Nat.le_refl _) _,Blk.new w cs t⟩
theorem RdW.below {w W W' :World} {t:TypeId} {cs:Array Value} (h:RdW w W t cs) (hb:Below W.heap.size W W'):RdW w W' t cs:=⟨aa h.b hb,h.x.below hb⟩
theorem RdW.row {w W:World} {t:TypeId} {cs:Array Value} (h:RdW w W t cs) {g:Nat} (hg:w.heap.size < g) (ds:Array Value):RdW w (W.setRow g ds) t cs:=⟨ai h.b (by omega) ds,h.x.ah ds (by omega)⟩
theorem RdW.lt {w W:World} {t:TypeId} {cs:Array Value} (h:RdW w W t cs):w.heap.size < W.heap.size:=h.x.lt
theorem jN.any {o:Option Nd} {w w' :World} {e:Ending} (h:jN o w e w'):∃ (nd:Nd) (A:Option Addr) (n c:Nat) (b:Bool),e= .returned (.tuple #[.agg (ndC nd (.slice A n c)), .bool b])∧Below w.heap.size w w' :=by
 cases o with
 | none=>exact ⟨zNd,none,0,0,false,h.1,h.2⟩
 | some n=>obtain ⟨A,c,h1,_,h3,_⟩:=h;exact ⟨n,A,_,c,true,h1,h3⟩
theorem WkS.fnd {w:World} {base gw m:Nat} {u:Wu} {v:Wv} {ds:List Dm} {ms:List Mt} {fs:List Fo} (h:WkS w base gw u v ds ms fs m) {gF:Nat} (hF:v.F=some ⟨gF,0,none⟩) {k:Nat} (hk:k < fs.length) (j:Nat) (hj:j < 8):w.cell? ⟨gF,k * 8+j,none⟩=(EFo.C (fs[k]'hk))[j]? :=by
 obtain ⟨ad,e,_,h2⟩:=aQ h.O.ff k hk;rw [hF] at e;injection e with e;subst e;have h3:=h2 j hj;rw [Addr.add_mid,Addr.add_mid] at h3;rw [← Nat.zero_add (k * 8)];exact h3
theorem WkS.files {w:World} {base gw m:Nat} {u:Wu} {v:Wv} {ds:List Dm} {ms:List Mt} {fs:List Fo} (h:WkS w base gw u v ds ms fs m):bV w w.heap.size v.A ds:=h.O.fo.rO.1
theorem WkS.aR {w:World} {base gw m:Nat} {u:Wu} {v:Wv} {ds:List Dm} {ms:List Mt} {fs:List Fo} (h:WkS w base gw u v ds ms fs m):AtE EMt w w.heap.size v.Am ms:=aQ h.O.mo
theorem uM (base gw m:Nat) (u:Wu) (v:Wv) (ds:List Dm) (ms:List Mt) (fs:List Fo) (d i want:Int) (w:World) (h:WkS w base gw u v ds ms fs m):
   Calls Tryz.prog 198 #[.pointer (some ⟨gw,0,none⟩),flV d i, .int .i64 want] w (WbP w):=by
 have HW:=Hd h;have S0:=Hd (RdW.new w 44 #[.int .i64 d, .int .i64 i]);clear h;go_in;go_upto_region 1 with fail;generalize w.alloc (.cells #[.int .i64 d, .int .i64 i] 44)=w0 at *;have S1:=Hd (show RdW w w0.drew 44 #[.int .i64 d, .int .i64 i] from S0.o.below (Below.refl w0.heap.size w0).drew);go_cut [7] (fun p wx=>∃ (gn:Nat) (nd:Nd) (An:Option Addr) (nn nc:Nat),p= .pointer (some ⟨gn,0,none⟩)∧w.heap.size < gn∧RdW w wx 44 #[.int .i64 d, .int .i64 i]∧Blk wx gn 145 (ndC nd (.slice An nn nc)));case first=>
   refine wp_region_held_drew (S:=(fun W=>RdW w W 44 #[.int .i64 d, .int .i64 i])) (by kernel_rfl) S1.o (fun hHeld=>?_);generalize w0.drew=wq at *;refine tk hHeld 0 ?_ ?_ (tk hHeld 1 ?_ ?_ (tk hHeld 2 ?_ ?_ (tk hHeld 3 ?_ ?_ (tk hHeld 4 ?_ ?_ (tk hHeld 5 ?_ ?_ (tk hHeld 6 ?_ ?_ ?_))))));iterate 7
     rotate_left
     · intro W hSw;have hh:=HW.o.below hSw.b;have x0:W.cell? ⟨gw,0,none⟩=some (.slice v.A v.n v.c):=hh.X.cell 0;clear hh;have u0:=hSw.x.cell 0;have u1:=hSw.x.cell 1;go_simp;try (with_reducible rfl)
   refine wpAnyH_ready (rs:= [7,11]) (by kernel_rfl) (by simp) ?_;refine AllReadyH.cons rfl (fun K hK=>?_) (AllReadyH.cons rfl (fun K hK=>?_) AllReadyH.nil)
   · go_simp;go_at_call 70;refine (bM d i ds _ _ _ HW.o.O.few.2.2 wq (HW.o.below (S1.o).b).files).mono ?_;intro e we hp;obtain ⟨nd,An,nn,nc,bb,rfl,hb⟩:=hp.any;go_simp;have SA:=Hd (show RdW w we 44 #[.int .i64 d, .int .i64 i] from (S1.o).below hb);refine hK.o _ _ SA.o (fun hHeld=>?_);clear hK K;refine tk hHeld 8 ?_ ?_ (tk hHeld 9 ?_ ?_ (tk hHeld 10 ?_ ?_ ?_));iterate 3
       rotate_left
       · intro W hSw;go_simp;try (with_reducible rfl)
     have hba:=(Below.refl we.heap.size we).alloc (Nat.le_refl _) (.cells ndZ 145);have S2:=Hd (show RdW w (we.alloc (.cells ndZ 145)) 44 #[.int .i64 d, .int .i64 i] from (SA.o).below hba);have Q2:=Hd (Blk.new we ndZ 145);have HGB:=Hd (show w.heap.size+1≤we.heap.size from (SA.o).lt);refine rdy1 11 (fun K hK=>?_);go_simp;refine hK.o _ _ S2.o (fun hHeld=>?_);clear hK K;clear hba hb SA;generalize we.alloc (.cells ndZ 145)=Wz at *;generalize we.heap.size=gb at *;refine rdy1 12 (fun K hK=>?_);refine ag (by rfl) 145 (.tmp 7) (.tmp 18) (by rfl) Q2.o (ndC nd (.slice An nn nc)) ?_ ?_ (gB _ _) rfl (eX _ _ _ _) ?_
     · go_simp
     · go_simp
     have S3:=Hd (show RdW w (Wz.setRow gb (ndC nd (.slice An nn nc))) 44 #[.int .i64 d, .int .i64 i] from (S2.o).row HGB.o _);have Q3:=Hd (Q2.o.row (ndC nd (.slice An nn nc)));refine hK.o _ _ S3.o (fun hHeld=>?_);clear hK K;generalize Wz.setRow gb (ndC nd (.slice An nn nc))=Wy at *;refine tk hHeld 13 ?_ ?_ ?_;rotate_left
     · intro W hSw;go_simp;try (with_reducible rfl)
     refine wpAnyH_done (by kernel_rfl) ?_ _;go_wp2_with fail;go_meet;exact ⟨gb,nd,An,nn,nc,rfl,HGB.o,S3.o,Q3.o⟩
   · go_simp;have hba:=(Below.refl wq.heap.size wq).alloc (Nat.le_refl _) (.cells ndZ 145);have SA:=Hd (show RdW w (wq.alloc (.cells ndZ 145)) 44 #[.int .i64 d, .int .i64 i] from (S1.o).below hba);have QA:=Hd (Blk.new wq ndZ 145);have HGB:=Hd (show w.heap.size+1≤wq.heap.size from (S1.o).lt);refine hK.o _ _ SA.o (fun hHeld=>?_);clear hK K hba;generalize wq.alloc (.cells ndZ 145)=wqb at *;generalize wq.heap.size=gb at *;refine rdy1 7 (fun K hK=>?_);go_simp;go_at_call 70;refine (bM d i ds _ _ _ HW.o.O.few.2.2 wqb (HW.o.below (SA.o).b).files).mono ?_;intro e we hp;obtain ⟨nd,An,nn,nc,bb,rfl,hb⟩:=hp.any;go_simp;have S2:=Hd (show RdW w we 44 #[.int .i64 d, .int .i64 i] from (SA.o).below hb);have Q2:=Hd (QA.o.below hb);refine hK.o _ _ S2.o (fun hHeld=>?_);clear hK K hb SA QA;refine tk hHeld 8 ?_ ?_ (tk hHeld 9 ?_ ?_ (tk hHeld 10 ?_ ?_ ?_));iterate 3
       rotate_left
       · intro W hSw;go_simp;try (with_reducible rfl)
     go_simp;refine rdy1 12 (fun K hK=>?_);refine ag (by rfl) 145 (.tmp 7) (.tmp 18) (by rfl) Q2.o (ndC nd (.slice An nn nc)) ?_ ?_ (gB _ _) rfl (eX _ _ _ _) ?_
     · go_simp
     · go_simp
     have S3:=Hd (show RdW w (we.setRow gb (ndC nd (.slice An nn nc))) 44 #[.int .i64 d, .int .i64 i] from (S2.o).row HGB.o _);have Q3:=Hd (Q2.o.row (ndC nd (.slice An nn nc)));refine hK.o _ _ S3.o (fun hHeld=>?_);clear hK K;generalize we.setRow gb (ndC nd (.slice An nn nc))=Wy at *;refine tk hHeld 13 ?_ ?_ ?_;rotate_left
     · intro W hSw;go_simp;try (with_reducible rfl)
     refine wpAnyH_done (by kernel_rfl) ?_ _;go_wp2_with fail;go_meet;exact ⟨gb,nd,An,nn,nc,rfl,HGB.o,S3.o,Q3.o⟩
 case rest=>
 obtain ⟨gn,nd,An,nn,nc,rfl,hgn,hs3,hq3⟩:=hcut;have HGN:=Hd hgn;have S3:=Hd hs3;have QN3:=Hd hq3;clear hgn hs3 hq3 S1;go_upto_region 2 with fail;have S5:=Hd (show RdW w wc.drew 44 #[.int .i64 d, .int .i64 i]∧Blk wc.drew gn 145 (ndC nd (.slice An nn nc)) from ⟨S3.o.below (Below.refl wc.heap.size wc).drew,QN3.o⟩);clear S3 QN3 S0;refine wp_region_held_drew (S:=(fun W=>RdW w W 44 #[.int .i64 d, .int .i64 i]∧Blk W gn 145 (ndC nd (.slice An nn nc)))) (by kernel_rfl) S5.o (fun hHeld=>?_);generalize wc.drew=w4 at *;refine tk hHeld 0 ?_ ?_ (tk hHeld 1 ?_ ?_ (tk hHeld 2 ?_ ?_ (tk hHeld 3 ?_ ?_ (tk hHeld 4 ?_ ?_ (tk hHeld 5 ?_ ?_ (tk hHeld 6 ?_ ?_ (tk hHeld 7 ?_ ?_ (tk hHeld 8 ?_ ?_ (tk hHeld 9 ?_ ?_ (tk hHeld 10 ?_ ?_ (tk hHeld 11 ?_ ?_ ?_)))))))))));iterate 12
   rotate_left
   · intro W hSw;have hh:=HW.o.below hSw.1.b;have x8:W.cell? ⟨gw,8,none⟩=some (.int .i64 u.p.eu):=hh.X.cell 8;have x10:W.cell? ⟨gw,10,none⟩=some (.int .i64 u.p.eg):=hh.X.cell 10;clear hh;have n0:W.cell? ⟨gn,0,none⟩=some (.int .i64 nd.ino):=hSw.2.cell 0;have n1:W.cell? ⟨gn,1,none⟩=some (.int .i64 nd.kind):=hSw.2.cell 1;have n2:W.cell? ⟨gn,2,none⟩=some (.int .i64 nd.mode):=hSw.2.cell 2;have n3:W.cell? ⟨gn,3,none⟩=some (.int .i64 nd.uid):=hSw.2.cell 3;have n4:W.cell? ⟨gn,4,none⟩=some (.int .i64 nd.gid):=hSw.2.cell 4;have n5:W.cell? ⟨gn,5,none⟩=some (.int .i64 nd.par):=hSw.2.cell 5;have n6:W.cell? ⟨gn,6,none⟩=some (.string nd.tg):=hSw.2.cell 6;have n7:W.cell? ⟨gn,7,none⟩=some (.slice An nn nc):=hSw.2.cell 7;go_simp;try (with_reducible rfl)
 refine rdy1 12 (fun K hK=>?_);go_simp;go_at_call 248;refine (Lx nd (.slice An nn nc) u.p.eu u.p.eg want w4).mono ?_;rintro e w5 ⟨⟨b5,rfl⟩,hb⟩;go_simp;have S6:=Hd (show RdW w w5 44 #[.int .i64 d, .int .i64 i]∧Blk w5 gn 145 (ndC nd (.slice An nn nc)) from ⟨S5.o.1.below hb,S5.o.2.below hb⟩);refine hK.o _ _ S6.o (fun hHeld=>?_);clear hK K hb;refine tk hHeld 13 ?_ ?_ ?_;rotate_left
 · intro W hSw;go_simp;try (with_reducible rfl)
 refine wpAnyH_done (by kernel_rfl) ?_ _;go_wp2_with fail;go_ret;exact ⟨⟨_,rfl⟩,S6.o.1.b⟩
theorem zu (base gw m:Nat) (u:Wu) (v:Wv) (ds:List Dm) (ms:List Mt) (fs:List Fo) (i:Int) (k:Nat) (hi:i=k) (hk:k < fs.length) (w:World) (h:WkS w base gw u v ds ms fs m):
   Calls Tryz.prog 202 #[.pointer (some ⟨gw,0,none⟩), .int .i64 i] w fun e w' =>e= .returned (.bool (bI (ds.map Dm.dv) (fs[k]'hk).fd (fs[k]'hk).fi))∧Below w.heap.size w w' :=by
 have HW:=Hd h;have HK:=Hd hk;subst hi;obtain ⟨gF,hF,_,_,hnF⟩:=aU h.O.ff (Nat.lt_of_le_of_lt (Nat.zero_le k) hk);have HF:=Hd hF;have k1:(k:Int) < (v.nF:Int):=by rw [hnF];omega
 have k2:(0:Int)≤(k:Int):=by omega
 clear h hF hnF;go_in;go_upto_region 1 with fail;have S1:=Hd (Below.refl w.heap.size w).drew;refine wp_region_held_drew (S:=(fun W=>Below w.heap.size w W)) (by kernel_rfl) S1.o (fun hHeld=>?_);generalize w.drew=w1 at *;refine tk hHeld 0 ?_ ?_ (tk hHeld 1 ?_ ?_ (tk hHeld 2 ?_ ?_ (tk hHeld 3 ?_ ?_ (tk hHeld 4 ?_ ?_ (tk hHeld 5 ?_ ?_ (tk hHeld 6 ?_ ?_ (tk hHeld 7 ?_ ?_ (tk hHeld 8 ?_ ?_ (tk hHeld 9 ?_ ?_ (tk hHeld 10 ?_ ?_ (tk hHeld 11 ?_ ?_ (tk hHeld 12 ?_ ?_ (tk hHeld 13 ?_ ?_ ?_)))))))))))));iterate 14
   rotate_left
   · intro W hSw;have hh:=HW.o.below hSw;have x0:W.cell? ⟨gw,0,none⟩=some (.slice v.A v.n v.c):=hh.X.cell 0;have x26:W.cell? ⟨gw,26,none⟩=some (.slice (some ⟨gF,0,none⟩) v.nF v.cF):=(by rw [← HF.o];exact hh.X.cell 26);have y3:W.cell? ⟨gF,k * 8+3,none⟩=some (.int .i64 (fs[k]'HK.o).fd):=hh.fnd HF.o HK.o 3 (by omega);have y4:W.cell? ⟨gF,k * 8+4,none⟩=some (.int .i64 (fs[k]'HK.o).fi):=hh.fnd HF.o HK.o 4 (by omega);clear hh;go_simp;try (with_reducible rfl)
 refine rdy1 14 (fun K hK=>?_);go_simp;go_at_call 67;refine (jd (fs[k]'HK.o).fd (fs[k]'HK.o).fi ds _ _ _ HW.o.O.few.2.2 w1 (HW.o.below S1.o).files).mono ?_;rintro e w2 ⟨rfl,hb⟩;go_simp;have S2:=Hd (aa S1.o hb);refine hK.o _ _ S2.o (fun hHeld=>?_);clear hK K hb;refine tk hHeld 15 ?_ ?_ ?_;rotate_left
 · intro W hSw;go_simp;try (with_reducible rfl)
 refine wpAnyH_done (by kernel_rfl) ?_ _;go_wp2_with fail;go_ret;exact ⟨rfl,S2.o⟩
def Jf (ms:List Mt) (d i:Int) (w:World) (e:Ending) (w' :World):Prop:=∃ b:Bool,e= .returned (.bool b)∧(b=false→∀ x∈ms,¬ (x.od=d∧x.oi=i))∧Below w.heap.size w w'
theorem EG {ms:List Mt} {d i:Int} (h:AL ms d i=false):∀ x∈ms,¬ (x.od=d∧x.oi=i):=by
 unfold AL xh at h;intro x hx he;cases hf:ms.find? (fun x=>x.od == d && x.oi == i) with
 | some y=>rw [hf] at h;cases h
 | none=>
  rw [List.find?_eq_none] at hf;exact hf x hx (by simp [he.1,he.2])
theorem EH (base gw m:Nat) (u:Wu) (v:Wv) (ds:List Dm) (ms:List Mt) (fs:List Fo) (d i:Int) (w:World) (h:WkS w base gw u v ds ms fs m):
  Calls Tryz.prog 205 #[.pointer (some ⟨gw,0,none⟩),flV d i] w (Jf ms d i w):=by
 have HW:=Hd h;have S0:=Hd (RdW.new w 44 #[.int .i64 d, .int .i64 i]);have HFL:=fun a b c d (W:World)=>tK a b c d W;clear h;go_in;go_upto_region 1 with fail;generalize w.alloc (.cells #[.int .i64 d, .int .i64 i] 44)=w0 at *;have S1:=Hd (S0.o.below (Below.refl w0.heap.size w0).drew);clear S0;refine wp_region_held_drew (S:=(fun W=>RdW w W 44 #[.int .i64 d, .int .i64 i])) (by kernel_rfl) S1.o (fun hHeld=>?_);generalize w0.drew=w1 at *;refine tk hHeld 0 ?_ ?_ (tk hHeld 1 ?_ ?_ (tk hHeld 2 ?_ ?_ (tk hHeld 3 ?_ ?_ (tk hHeld 4 ?_ ?_ (tk hHeld 5 ?_ ?_ ?_)))));iterate 6
  rotate_left
  · intro W hSw;have hh:=HW.o.below hSw.b;have x0:W.cell? ⟨gw,0,none⟩=some (.slice v.A v.n v.c):=hh.X.cell 0;have x1:W.cell? ⟨gw,1,none⟩=some (.slice v.Am v.nm v.cm):=hh.X.cell 1;clear hh;have u0:=hSw.x.cell 0;have u1:=hSw.x.cell 1;go_simp;try (with_reducible rfl)
 refine rdy1 6 (fun K hK=>?_);go_simp;go_at_call 106;refine (DK d i v.A v.n v.c ms v.Am v.nm v.cm HW.o.O.few.1 (by have:=HW.o.O.few.2.1;omega) w1 (HW.o.below S1.o.b).aR).mono ?_;rintro e w2 ⟨rfl,hb⟩;go_simp;have S2:=Hd (S1.o.below hb);refine hK.o _ _ S2.o (fun hHeld=>?_);clear hK K hb hHeld S1;refine wpAnyH_done (by kernel_rfl) ?_ _;cases hcv:AL ms d i with
 | true=>
  go_wp2_with fail;go_ret;exact ⟨true,rfl,fun h=>(nomatch h),S2.o.b⟩
 | false=>
  have HCV:=Hd (EG hcv);clear hcv;obtain ⟨ps,hps⟩:=(HW.o.below S2.o.b).O.tb;have HPS:=Hd hps;have HPN:=Hd (bZ hps.own).1;clear hps;go_wp2_with fail;go_loopw [5] (fun ix wr=>∃ k t:Nat,k≤ps.length∧ix= .int .i64 k∧wr=w2.drewN t) (fun ix _=>ps.length - (intOf ix).toNat);case atStart=>exact ⟨0,0,Nat.zero_le _,rfl,rfl⟩
  case round=>
    obtain ⟨k,t,hk,rfl,rfl⟩:=hrel;have hh:=HW.o.below S2.o.b;have x4:w2.cell? ⟨gw,4,none⟩=some (.slice v.At v.nt v.ct):=hh.X.cell 4;have u0:=S2.o.x.cell 0;have u1:=S2.o.x.cell 1;clear hh;have WK:=Hd (bz hk (by have:=HPS.o.few;omega));have hn:=HPN.o;by_cases hlt:k < ps.length;case neg=>
     have k1:¬ (k:Int) < (v.nt:Int):=(by rw [hn];omega);clear hn;go_wp2_with fail;go_ret;exact ⟨false,rfl,fun _=>HCV.o,below_drewN S2.o.b _⟩
    case pos=>
     have k1:(k:Int) < (v.nt:Int):=(by rw [hn];omega);have k2:(0:Int)≤(k:Int):=(by omega);obtain ⟨am,ea,hab,hcx⟩:=aQ HPS.o.own k hlt;obtain ⟨⟨m0,m1,m2,m3,m4,m5,m6⟩,m7,m8,m9,m10,m11,m12,m13⟩:=dO (a:=am.add (k * 14)) hcx;rw [ea] at x4;clear hcx hn ea m0 m1 m2 m3 m4 m5 m6 m7 m10 m11 m12 m13;generalize ps[k]=x at *;cases hb:flB x.p.cd x.p.ci d i with
     | true=>
      go_upto_region 6 with fail;go_quiet (fail);go_wp2_with fail;go_ret;exact ⟨true,rfl,fun h=>(nomatch h),below_drewN (below_drewN S2.o.b _) _⟩
     | false=>
      go_upto_region 6 with fail;go_quiet (fail);obtain ⟨wk1,wk2⟩:=WK.o;go_wp2_with fail;clear wk1 wk2;go_roundw;case rel=>exact ⟨k+1,t+nq,hlt,rfl,rfl⟩
      case measure=>exact aN hlt _ rfl
structure Sy where
 A:Option Addr
 n:Nat
 c:Nat
 Am:Option Addr
 nm:Nat
 cm:Nat
 ta:Int
 tb:Int
 At:Option Addr
 nt:Nat
 ct:Nat
abbrev syC (s:Sy):Array Value:=#[.slice s.A s.n s.c, .slice s.Am s.nm s.cm, .int .i64 s.ta, .int .i64 s.tb, .slice s.At s.nt s.ct]
abbrev syZ:Array Value:=#[.slice none 0 0, .slice none 0 0, .int .i64 0, .int .i64 0, .slice none 0 0]
theorem gy (s:Sy):(Tryz.prog.info? 36).map (·.size)=some (syC s).size:=by show _=some 5;kernel_rfl
theorem eO (s:Sy):(syC s).all (·.oneCell')=true:=by simp [Value.oneCell']
structure eD (w:World) (base:Nat) (s:Sy) (ds:List Dm) (ms:List Mt) (ps:List Pm):Prop where
 fo:aC w base (.slice s.A s.n s.c) ds
 mo:ax EMt w base (.slice s.Am s.nm s.cm) ms
 so:SOk (ds.map Dm.dv) ms
 tb:aI w base (.slice s.At s.nt s.ct) ps
def SyO (w:World) (base:Nat) (s:Sy):Prop:=∃ ds ms ps,eD w base s ds ms ps
section
variable {w w' :World} {base:Nat} {s:Sy} {ds:List Dm} {ms:List Mt} {ps:List Pm}
theorem eD.below (h:eD w base s ds ms ps) (hb:Below w.heap.size w w'):eD w' base s ds ms ps:=⟨h.fo.below hb,h.mo.below hb,h.so,h.tb.below hb⟩
theorem SyO.below (h:SyO w base s) (hb:Below w.heap.size w w'):SyO w' base s:=by
 obtain ⟨ds,ms,ps,h⟩:=h;exact ⟨ds,ms,ps,h.below hb⟩
theorem eD.low (h:eD w base s ds ms ps) {b:Nat} (hb:b≤base):eD w b s ds ms ps:=⟨h.fo.low hb,h.mo.low hb,h.so,h.tb.low hb⟩
theorem SyO.low (h:SyO w base s) {b:Nat} (hb:b≤base):SyO w b s:=by
 obtain ⟨ds,ms,ps,h⟩:=h;exact ⟨ds,ms,ps,h.low hb⟩
theorem eD.few (h:eD w base s ds ms ps):s.nm=ms.length∧s.nm≤2∧s.n=ds.length:=by
 have h1:=(bZ h.mo).1;have h2:=h.so.2.few h.so.1.2.1;exact ⟨h1,by omega,h.fo.rO.2⟩
theorem eD.files (h:eD w base s ds ms ps):bV w w.heap.size s.A ds:=h.fo.rO.1
theorem eD.aR (h:eD w base s ds ms ps):AtE EMt w w.heap.size s.Am ms:=aQ h.mo
theorem eD.nt (h:eD w base s ds ms ps):s.nt=ps.length∧s.nt≤16:=by
 have h1:=h.tb.at'.1;have h2:=h.tb.few;exact ⟨h1,by omega⟩
theorem eD.far (h:eD w base s ds ms ps) {k:Nat} {t:TypeId} {cs:Array Value} (hg:w.grownBy w' (some k)) (hk:Blk w k t cs) (ht:t ∉ nZ):eD w' base s ds ms ps:=
 ⟨h.fo.ku hk hg (iC (by decide) ht) (iC (by decide) ht) (iC (by decide) ht),h.mo.far hg (fun q e r=>by injection r with r;subst r;exact ay h.mo hk (iC (by decide) ht) e),h.so,h.tb.far hg (fun q e=>by injection e with e;subst e;exact h.tb.blk hk (iC (by decide) ht) (iC (by decide) ht))⟩
theorem SyO.far (h:SyO w base s) {k:Nat} {t:TypeId} {cs:Array Value} (hg:w.grownBy w' (some k)) (hk:Blk w k t cs) (ht:t ∉ nZ):SyO w' base s:=by
 obtain ⟨ds,ms,ps,h⟩:=h;exact ⟨ds,ms,ps,h.far hg hk ht⟩
theorem SyO.src (h:SyO w base s) {g:Nat} (hl:g < base) (hg:w.grownBy w' (some g)):SyO w' base s:=by
 obtain ⟨ds,ms,ps,h⟩:=h;exact ⟨ds,ms,ps,h.fo.far hg (fun q e=>by injection e with e;subst e;exact h.fo.old hl),h.mo.far hg (fun q e r=>by injection r with r;have:=h.mo.ge q e;omega),h.so,h.tb.only hg hl⟩
end
theorem zD {fn:Func} {i:Nat} (h:fn.results=#[.cell i 36]) (tmps:Array Value) (w:World) (g:Nat) (s:Sy) (hp:tmps.getD i undef= .pointer (some ⟨g,0,none⟩)) (hg:Blk w g 36 (syC s)):
  (results fn tmps).run Tryz.prog w= .ok (.agg (syC s)) w:=
 results_cell_row h tmps w g _ (syC s) (0,0) _ hp hg Tryz.underlying36 rfl (gy s)
theorem qI (s:Sy):Tryz.prog.built 36 [(0, .agg #[.slice s.A s.n s.c, .slice s.Am s.nm s.cm]),(1, .agg #[.int .i64 s.ta, .int .i64 s.tb, .slice s.At s.nt s.ct])]=some (syC s):=by
 kernel_rfl
def CyP (w:World) (e:Ending) (w' :World):Prop:=∃ s',e= .returned (.agg (syC s'))∧SyO w' w.heap.size s' ∧Below w.heap.size w w'
theorem oG (s:Sy) (w:World) (b:Nat) (h:SyO w b s):
   Calls Tryz.prog 82 #[.agg (syC s)] w (CyP w):=by
 obtain ⟨ds,ms,ps,hh⟩:=h;have HO:=Hd hh;have HF:=Hd hh.few;have HT:=Hd hh.nt;clear hh;have hb0:=aT w (syC s) syZ 36 36;have h2:=Blk.new (w.alloc (.cells (syC s) 36)) syZ 36;simp only [World.size_alloc] at h2;have S0:=Hd (show Below w.heap.size w ((w.alloc (.cells (syC s) 36)).alloc (.cells syZ 36))∧Blk ((w.alloc (.cells (syC s) 36)).alloc (.cells syZ 36)) w.heap.size 36 (syC s) from ⟨hb0,(Blk.new w (syC s) 36).alloc _⟩);have R0:=Hd h2;clear hb0 h2;go_in;go_upto_region 1 with fail;generalize (w.alloc (.cells (syC s) 36)).alloc (.cells syZ 36)=w0 at *;have S1:=Hd (show Below w.heap.size w w0.drew∧Blk w0.drew w.heap.size 36 (syC s) from ⟨aa S0.o.1 (Below.refl w0.heap.size w0).drew,S0.o.2.below (Below.refl w0.heap.size w0).drew⟩);have R1:=Hd (R0.o.below (Below.refl w0.heap.size w0).drew);clear S0 R0;refine wp_region_held_drew (S:=(fun W=>Below w.heap.size w W∧Blk W w.heap.size 36 (syC s))) (by kernel_rfl) S1.o (fun hHeld=>?_);generalize w0.drew=w1 at *;refine tk hHeld 0 ?_ ?_ (tk hHeld 1 ?_ ?_ (tk hHeld 3 ?_ ?_ (tk hHeld 4 ?_ ?_ ?_)));iterate 4
   rotate_left
   · intro W hSw;have x0:=hSw.2.cell 0;have x1:=hSw.2.cell 1;have x2:=hSw.2.cell 2;have x3:=hSw.2.cell 3;have x4:=hSw.2.cell 4;go_simp;try (with_reducible rfl)
 refine rdy1 2 (fun K hK=>?_);go_simp;go_at_call 107;refine (o8 ds s.A s.n s.c HF.o.2.2 ms s.Am s.nm s.cm HF.o.1 (by have:=HF.o.2.1;omega) w1 (HO.o.below S1.o.1).files (HO.o.below S1.o.1).aR).mono ?_;rintro e w2 ⟨A2,n2,c2,Am2,nm2,cm2,d2,rfl,hf,he,hm,hb⟩;have S2:=Hd (show Below w.heap.size w w2∧Blk w2 w.heap.size 36 (syC s) from ⟨aa S1.o.1 hb,S1.o.2.below hb⟩);have R2:=Hd (R1.o.below hb);have F2:=Hd (hf.low S1.o.1.size);have M2:=Hd (hm.low S1.o.1.size);have E2:=Hd he;clear hf hm he hb S1 R1;go_simp;refine hK.o _ _ S2.o (fun hHeld=>?_);clear hK K;refine rdy1 5 (fun K hK=>?_);go_simp;go_at_call 133;refine (qo s.ta s.tb ps s.At s.nt s.ct HT.o.1 HT.o.2 (fun x hx=>(HO.o.tb.op x hx).2) w2 ((HO.o.below S2.o.1).tb.at'.2)).mono ?_;rintro e w3 ⟨At3,nt3,ct3,p3,rfl,hp,hb,_⟩;have S3:=Hd (show Below w.heap.size w w3∧Blk w3 w.heap.size 36 (syC s) from ⟨aa S2.o.1 hb,S2.o.2.below hb⟩);have R3:=Hd (R2.o.below hb);have O3:=Hd (show eD w3 w.heap.size ⟨A2,n2,c2,Am2,nm2,cm2,s.ta,s.tb,At3,nt3,ct3⟩ d2 ms p3 from ⟨F2.o.below hb,M2.o.below hb,by rw [E2.o];exact HO.o.so,hp.low S2.o.1.size⟩);clear hp hb S2 R2 F2 M2 E2;go_simp;refine hK.o _ _ S3.o (fun hHeld=>?_);clear hK K;refine rdy1 6 (fun K hK=>?_);refine fE (by rfl) 36 _ (by rfl) (syC (⟨A2,n2,c2,Am2,nm2,cm2,s.ta,s.tb,At3,nt3,ct3⟩:Sy)) ?_ ?_
 · go_simp;exact qI (⟨A2,n2,c2,Am2,nm2,cm2,s.ta,s.tb,At3,nt3,ct3⟩:Sy)
 generalize (⟨A2,n2,c2,Am2,nm2,cm2,s.ta,s.tb,At3,nt3,ct3⟩:Sy)=s3 at *;refine hK.o _ _ S3.o (fun hHeld=>?_);clear hK K;refine rdy1 7 (fun K hK=>?_);refine ag (by rfl) 36 (.tmp 2) (.tmp 9) (by rfl) R3.o (syC s3) ?_ ?_ (gy _) rfl (eO _) ?_
 · go_simp
 · go_simp
 have S4:=Hd (show Below w.heap.size w (w3.setRow (w.heap.size+1) (syC s3))∧Blk (w3.setRow (w.heap.size+1) (syC s3)) w.heap.size 36 (syC s) from ⟨ai S3.o.1 (show w.heap.size≤w.heap.size+1 by omega) (syC s3),S3.o.2.ah _ (by omega)⟩);have O4:=Hd (O3.o.far (aA w3 (w.heap.size+1) (syC s3)) R3.o (by decide));have R4:=Hd (R3.o.row (syC s3));clear R3 O3 S3;refine hK.o _ _ S4.o (fun hHeld=>?_);clear hK K;generalize w3.setRow (w.heap.size+1) (syC s3)=w4 at *;refine wpAnyH_done (by kernel_rfl) ?_ _;go_wp2_with fail;refine bodyPost_ret (zD (fn:=Tryz.f82) rfl _ _ (w.heap.size+1) s3 rfl R4.o) rfl ?_;exact ⟨s3,rfl,⟨_,_,_,O4.o⟩,S4.o.1⟩
theorem BH {fn:Func} {i j:Nat} (h:fn.results=#[.cell i 36, .tmp j]) (tmps:Array Value) (w:World) (g:Nat) (s:Sy) (hp:tmps.getD i undef= .pointer (some ⟨g,0,none⟩)) (hg:Blk w g 36 (syC s)):
  (results fn tmps).run Tryz.prog w= .ok (.tuple #[.agg (syC s),tmps.getD j undef]) w:=by
 have hp' :tmps[i]?.getD undef= .pointer (some ⟨g,0,none⟩):=by simpa using hp
 simp [results,h,hp',asAddr,run_loadVar_row w g 36 36 (syC s) (0,0) _ hg Tryz.underlying36 rfl (gy s)]
def NwY (w:World) (e:Ending) (w' :World):Prop:=∃ s',e= .returned (.tuple #[.agg (syC s'), .int .i64 0])∧SyO w' w.heap.size s' ∧Below w.heap.size w w'
theorem aI.init {w:World} {base:Nat} {A:Option Addr} {c:Nat} (d i:Int) (h:ax EPc w base (.slice A 1 c) [vw d i]):aI w base (.slice A 1 c) [vw d i]:=
 ⟨h,by show 1≤16;omega,fun x hx=>by rw [List.mem_singleton.1 hx];exact ⟨ax.nil _ _,by show (0:Nat)≤8;omega,by show (4:Nat)≤640;omega,by show (5:Nat)≤640;omega⟩⟩
theorem JC (n:Nat) (h1:1≤n) (h3:n≤3) (w:World):
   Calls Tryz.prog 37 #[.int .i64 (n:Int)] w (NwY w):=by
 have S0:=Hd (show Below w.heap.size w (w.alloc (.cells syZ 36)) from (Below.refl _ _).alloc (Nat.le_refl _) _);have R0:=Hd (Blk.new w syZ 36);go_in;go_wp2_with fail;generalize w.alloc (.cells syZ 36)=w0 at *;refine (IX n h1 h3 w0).mono ?_;rintro e w1 ⟨v,ds,rfl,hf,he,hb⟩;have S1:=Hd (aa S0.o hb);have R1:=Hd (R0.o.below hb);have F1:=Hd (hf.low S0.o.size);have E1:=Hd he;clear hf he hb S0 R0;obtain ⟨A,c,rfl,_⟩:=F1.o.own.at;go_upto_region 4 with fail;have hb:=(Below.refl w1.heap.size w1).alloc (Nat.le_refl _) (.cells #[.slice A ds.length c] 28);have S2:=Hd (aa S1.o hb);have R2:=Hd (R1.o.below hb);have F2:=Hd (F1.o.below hb);have X2:=Hd (Blk.new w1 #[.slice A ds.length c] 28);generalize w1.heap.size=gf at *;clear hb S1 R1 F1;generalize w1.alloc (.cells #[.slice A ds.length c] 28)=w2 at *;have S3:=Hd (show Below w.heap.size w w2.drew∧Blk w2.drew gf 28 #[.slice A ds.length c] from ⟨aa S2.o (Below.refl w2.heap.size w2).drew,X2.o.below (Below.refl w2.heap.size w2).drew⟩);have R3:=Hd (R2.o.below (Below.refl w2.heap.size w2).drew);have F3:=Hd (F2.o.below (Below.refl w2.heap.size w2).drew);have HG:=Hd (show w.heap.size≤w2.heap.size from S2.o.size);clear S2 R2 F2 X2;refine wp_region_held_drew (S:=(fun W=>Below w.heap.size w W∧Blk W gf 28 #[.slice A ds.length c])) (by kernel_rfl) S3.o (fun hHeld=>?_);generalize w2.drew=w3 at *;refine tk hHeld 0 ?_ ?_ (tk hHeld 1 ?_ ?_ (tk hHeld 2 ?_ ?_ ?_));iterate 3
   rotate_left
   · intro W hSw;have x0:=hSw.2.cell 0;go_simp;try (with_reducible rfl)
 refine rdy1 3 (fun K hK=>?_);go_simp;go_at_call 80;refine (JB 0 1 w3).mono ?_;rintro e w4 ⟨At,ct,rfl,hp,hb⟩;have hsz:=S3.o.1.size;have S4:=Hd (show Below w.heap.size w w4∧Blk w4 gf 28 #[.slice A ds.length c] from ⟨aa S3.o.1 hb,S3.o.2.below hb⟩);have R4:=Hd (R3.o.below hb);have O4:=Hd (show eD w4 w.heap.size ⟨A,ds.length,c,none,0,0,2,1,At,1,ct⟩ ds [] [vw 0 1] from ⟨F3.o.below hb,ax.nil _ _,by rw [E1.o];exact ⟨FOk.new h1 h3, .nil⟩,aI.init 0 1 (hp.low hsz)⟩);clear hp hb S3 R3 F3 hsz;go_simp;refine hK.o _ _ S4.o (fun hHeld=>?_);clear hK K;refine rdy1 4 (fun K hK=>?_);refine fE (by rfl) 36 _ (by rfl) (syC (⟨A,ds.length,c,none,0,0,2,1,At,1,ct⟩:Sy)) ?_ ?_
 · go_simp;exact qI (⟨A,ds.length,c,none,0,0,2,1,At,1,ct⟩:Sy)
 generalize (⟨A,ds.length,c,none,0,0,2,1,At,1,ct⟩:Sy)=s3 at *;refine hK.o _ _ S4.o (fun hHeld=>?_);clear hK K;refine rdy1 5 (fun K hK=>?_);refine ag (by rfl) 36 (.tmp 2) (.tmp 19) (by rfl) R4.o (syC s3) ?_ ?_ (gy _) rfl (eO _) ?_
 · go_simp
 · go_simp
 have hne:gf≠w.heap.size:=fun e=>by subst e;have h5:=R4.o;have h6:=S4.o.2;unfold Blk at h5 h6;rw [h5] at h6;injection h6 with h6;injection h6 with _ h6;exact absurd h6 (by decide)
 have S5:=Hd (show Below w.heap.size w (w4.setRow w.heap.size (syC s3))∧Blk (w4.setRow w.heap.size (syC s3)) gf 28 #[.slice A ds.length c] from ⟨ai S4.o.1 (Nat.le_refl _) (syC s3),S4.o.2.ah _ hne⟩);have O5:=Hd (O4.o.far (aA w4 w.heap.size (syC s3)) R4.o (by decide));have R5:=Hd (R4.o.row (syC s3));clear R4 O4 S4 hne;refine hK.o _ _ S5.o (fun hHeld=>?_);clear hK K;generalize w4.setRow w.heap.size (syC s3)=w5 at *;refine tk hHeld 6 ?_ ?_ ?_;rotate_left
 · intro W hSw;go_simp;try (with_reducible rfl)
 refine wpAnyH_done (by kernel_rfl) ?_ _;go_wp2_with fail;refine bodyPost_ret (BH (fn:=Tryz.f37) rfl _ _ w.heap.size s3 rfl R5.o) rfl ?_;exact ⟨s3,rfl,⟨_,_,_,O5.o⟩,S5.o.1⟩
end Go.Proofs.YtollifnnpihfdaaGreatDoor
