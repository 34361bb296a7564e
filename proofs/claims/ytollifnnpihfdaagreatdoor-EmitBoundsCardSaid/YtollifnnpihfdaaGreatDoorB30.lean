import Derived.Test.YtollifnnpihfdaaGreatDoorB28
import Derived.Test.YtollifnnpihfdaaGreatDoorB29
set_option maxRecDepth 100000
set_option maxHeartbeats 64000000
set_option linter.all false
namespace Go.Proofs.YtollifnnpihfdaaGreatDoor
open Go.RowKit
def VTb (v0:Value) (pid:Int) (j:Nat) (v:Value) (W:World):Prop:=(j=5→v=v0)∧(j=10→v= .int .i64 pid)
theorem pF.uC {R:List Dv→List Mt→Prop} {w w' :World} {e:Ending} (h:pF R w e w'):∃ (A:Option Addr) (n c:Nat) (Am:Option Addr) (nm cm:Nat) (k:Int),e= .returned (.tuple #[.agg (spC (slV A n c) (slV Am nm cm)), .int .i64 k])∧Below w.heap.size w w' ∧
   (k=0→∃ ds ms,aC w' w.heap.size (slV A n c) ds∧ax EMt w' w.heap.size (slV Am nm cm) ms∧R (ds.map Dm.dv) ms):=by
 obtain ⟨hb,⟨k,hk,e⟩ | ⟨A,n,c,Am,nm,cm,ds,ms,e,h1,h2,h3⟩⟩:=h
 · exact ⟨none,0,0,none,0,0,k,e,hb,fun h=>absurd h hk⟩
 · exact ⟨A,n,c,Am,nm,cm,0,e,hb,fun _=>⟨ds,ms,h1,h2,h3⟩⟩
theorem WkS.MM {w:World} {base gw m:Nat} {u:Wu} {v:Wv} {ds ds2:List Dm} {ms ms2:List Mt} {fs:List Fo} (h:WkS w base gw u v ds ms fs m) {A2 Am2:Option Addr} {n2 c2 nm2 cm2:Nat} (h1:aC w base (.slice A2 n2 c2) ds2) (h3:ax EMt w base (.slice Am2 nm2 cm2) ms2) (h2:SOk (ds2.map Dm.dv) ms2):
  WkS ((w.setCell ⟨gw,0,none⟩ (.slice A2 n2 c2)).setCell ⟨gw,1,none⟩ (.slice Am2 nm2 cm2)) base gw u { v with A:=A2,n:=n2,c:=c2,Am:=Am2,nm:=nm2,cm:=cm2 } ds2 ms2 fs m:=
 h.turn ((av w gw 0 _).trans (av _ gw 1 _)) ((h.X.put 0 (.slice A2 n2 c2)).put 1 (.slice Am2 nm2 cm2)) (h.O.N9 h1 h3 h2)
theorem sI (base gw m:Nat) (u:Wu) (v:Wv) (ds:List Dm) (ms:List Mt) (fs:List Fo) (hn:0 < fs.length) (w:World) (h:WkS w base gw u v ds ms fs m):
  Calls Tryz.prog 144 #[.pointer (some ⟨gw,0,none⟩)] w (WkP w base gw u fs m):=by
 have HW:=Hd h;have H0:=Hd hn;obtain ⟨gF,hF,_,_,hnF⟩:=aW h.O.ff hn;have HF:=Hd hF;have k1:(0:Int) < (v.nF:Int):=by rw [hnF];omega
 have k1a:0 < v.nF:=by omega
 have k1b:v.nF≠0:=by omega
 have k1c:¬ v.nF≤0:=by omega
 have HNM:=Hd (h.O.fk _ (List.getElem_mem H0.o));obtain ⟨a,ha⟩:∃ a,a=fs[0]'H0.o:=⟨_,rfl⟩;have HE0:=Hd ha.symm;have HNA:=Hd (show a.nm.size≤12∧a.pa.size≤640 by rw [ha];exact HNM.o);clear ha;have x26:w.cell? ⟨gw,26,none⟩=some (.slice (some ⟨gF,0,none⟩) v.nF v.cF):=by rw [← HF.o];exact h.X.cell 26
 have y00:w.cell? ⟨gF,0,none⟩=some (.int .i64 a.dd):=by have h9:=h.fnd HF.o H0.o 0 (by omega);rw [HE0.o] at h9;exact h9
 have y01:w.cell? ⟨gF,1,none⟩=some (.int .i64 a.di):=by have h9:=h.fnd HF.o H0.o 1 (by omega);rw [HE0.o] at h9;exact h9
 have y02:w.cell? ⟨gF,2,none⟩=some (.string a.nm):=by have h9:=h.fnd HF.o H0.o 2 (by omega);rw [HE0.o] at h9;exact h9
 have y03:w.cell? ⟨gF,3,none⟩=some (.int .i64 a.fd):=by have h9:=h.fnd HF.o H0.o 3 (by omega);rw [HE0.o] at h9;exact h9
 have y04:w.cell? ⟨gF,4,none⟩=some (.int .i64 a.fi):=by have h9:=h.fnd HF.o H0.o 4 (by omega);rw [HE0.o] at h9;exact h9
 have y05:w.cell? ⟨gF,5,none⟩=some (.bool a.ex):=by have h9:=h.fnd HF.o H0.o 5 (by omega);rw [HE0.o] at h9;exact h9
 have y06:w.cell? ⟨gF,6,none⟩=some (.bool a.sl):=by have h9:=h.fnd HF.o H0.o 6 (by omega);rw [HE0.o] at h9;exact h9
 have y07:w.cell? ⟨gF,7,none⟩=some (.string a.pa):=by have h9:=h.fnd HF.o H0.o 7 (by omega);rw [HE0.o] at h9;exact h9
 have S0:=Hd (RdW.new w 223 (foC a));clear h hn hF hnF HNM;go_in;go_upto_region 2 with fail;clear x26 k1 k1a k1b k1c y00 y01 y02 y03 y04 y05 y06 y07;generalize w.alloc (.cells (foC a) 223)=w0 at *;have b5:w0.cell? ⟨w.heap.size,5,none⟩=some (.bool a.ex):=S0.o.x.cell 5;cases hc:a.ex;case false=>
  rw [hc] at b5;go_wp2_with fail;go_ret;exact ⟨_,v,ds,ms,rfl,HW.o.below S0.o.b,S0.o.b.mono HW.o.big⟩
 rw [hc] at b5;clear hc;have x19:w0.cell? ⟨gw,19,none⟩=some (.int .i64 u.z):=(HW.o.below S0.o.b).X.cell 19;go_upto_region 5 with fail;clear b5 x19;by_cases hz:u.z=1;case pos=>
  obtain ⟨p1,p2⟩:=bI hz;clear hz;go_wp2_with fail;refine (Bw base gw m u v ds ms fs 0 0 rfl H0.o w0 (HW.o.below S0.o.b)).mono ?_;rintro e w2 ⟨rfl,hb⟩;replace S0:=Hd (S0.o.below hb);clear hb;generalize hdd:bM (ds.map Dm.dv) (fs[0]'H0.o).fd (fs[0]'H0.o).fi=bd;clear hdd;cases bd;case true=>
    go_wp2_with fail;go_ret;exact ⟨_,v,ds,ms,rfl,HW.o.below S0.o.b,S0.o.b.mono HW.o.big⟩
  have b3:w2.cell? ⟨w.heap.size,3,none⟩=some (.int .i64 a.fd):=S0.o.x.cell 3;have b4:w2.cell? ⟨w.heap.size,4,none⟩=some (.int .i64 a.fi):=S0.o.x.cell 4;go_wp2_with fail;clear b3 b4;refine (wX base gw m u v ds ms fs a.fd a.fi 1 w2 (HW.o.below S0.o.b)).mono ?_;rintro e w3 ⟨⟨bm,rfl⟩,hb⟩;replace S0:=Hd (S0.o.below hb);clear hb;cases bm;case false=>
    go_wp2_with fail;go_ret;exact ⟨_,v,ds,ms,rfl,HW.o.below S0.o.b,S0.o.b.mono HW.o.big⟩
  go_upto_region 8 with fail;have DD:=Hd (show Below w.heap.size w w3.drew from aa S0.o.b (Below.refl w3.heap.size w3).drew);have C4:=Hd (show Blk w3.drew w.heap.size 223 (foC a) from S0.o.x);clear S0;refine wp_region_held_drew (S:=(fun W=>Blk W w.heap.size 223 (foC a))) (by kernel_rfl) C4.o (fun hHeld=>?_);generalize w3.drew=w4 at *;refine tk hHeld 0 ?_ ?_ (tk hHeld 1 ?_ ?_ (tk hHeld 2 ?_ ?_ (tk hHeld 3 ?_ ?_ (tk hHeld 4 ?_ ?_ (tk hHeld 6 ?_ ?_ (tk hHeld 7 ?_ ?_ (tk hHeld 8 ?_ ?_ (tk hHeld 9 ?_ ?_ (tk hHeld 11 ?_ ?_ (tk hHeld 12 ?_ ?_ (tk hHeld 13 ?_ ?_ (tk hHeld 14 ?_ ?_ ?_))))))))))));iterate 13
    rotate_left
    · intro W hSw;have p2:W.cell? ⟨w.heap.size,2,none⟩=some (.string a.nm):=hSw.cell 2;have p7:W.cell? ⟨w.heap.size,7,none⟩=some (.string a.pa):=hSw.cell 7;go_simp;try (with_reducible rfl)
  refine bn [5,10] [(5,36),(10,41)] (fun W=>Below w.heap.size w W) (VTb (.agg (tbC v.ta v.tb (.slice v.At v.nt v.ct))) u.p.pid) (fun A B=>Below A.heap.size A B) 5 hHeld DD.o rfl (by kernel_rfl) (by kernel_rfl) (fun A B hb=>⟨fun h=>h.below hb,fun h=>aa h hb,fun j x' h=>h⟩) ?steps ?fin;case steps=>
    refine aY.cons (i:=5) rfl (fun uq W hSW hJW hpre K hK=>?_) ?_
    · dsimp only [bN,List.foldl];have hh:=HW.o.below hJW;have x2:W.cell? ⟨gw,2,none⟩=some (.int .i64 v.ta):=hh.X.cell 2;have x3:W.cell? ⟨gw,3,none⟩=some (.int .i64 v.tb):=hh.X.cell 3;have x4:W.cell? ⟨gw,4,none⟩=some (.slice v.At v.nt v.ct):=hh.X.cell 4;clear hh;go_simp;exact hK.o _ _ _ (by kernel_rfl) ⟨fun _=>rfl,fun h=>absurd h (by decide)⟩ (Below.refl _ _)
    refine aY.cons (i:=10) rfl (fun uq W hSW hJW hpre K hK=>?_) ?_
    · dsimp only [bN,List.foldl];have x5:W.cell? ⟨gw,5,none⟩=some (.int .i64 u.p.pid):=(HW.o.below hJW).X.cell 5;go_simp;exact hK.o _ _ _ (by kernel_rfl) ⟨fun h=>absurd h (by decide),fun _=>rfl⟩ (Below.refl _ _)
    exact aY.nil
  case fin=>
  intro uu W hHeld hJ hV;dsimp only [bN,List.foldl];have e5:=(hV 5 rfl).1 rfl;have e10:=(hV 10 rfl).2 rfl;simp only [e5,e10];go_simp;have D5:=Hd hJ;clear hV e5 e10 hJ DD;obtain ⟨ps,hps⟩:=(HW.o.below D5.o).O.tb;have HPS:=Hd hps;clear hps;refine rdy1 15 (fun K hK=>?_);go_simp;go_at_call 206;refine (GU v.ta v.tb ps v.At v.nt v.ct HPS.o.at'.1 (by have:=HPS.o.at'.1;have:=HPS.o.few;omega) (fun x hx=>(HPS.o.op x hx).2) u.p.pid a.pa a.nm (by have:=HNA.o.2;omega) (by have:=HNA.o.1;omega) W HPS.o.at'.2).mono ?_;rintro e w6 ⟨ta2,tb2,A2,n2,c2,kk,rfl,hb,hok⟩;go_simp;have D6:=Hd (aa D5.o hb);have C6:=Hd (show Blk w6 w.heap.size 223 (foC a) from Blk.below hHeld hb);have HP:=Hd (show kk=0→∃ ps,aJ w6 base (.slice A2 n2 c2) ps from fun hk0=>by obtain ⟨p2,h1⟩:=hok hk0;exact ⟨p2,h1.low (Nat.le_trans HW.o.big D5.o.size)⟩);refine hK.o _ _ C6.o (fun hHeld=>?_);clear hK K hb hok HPS;refine tk hHeld 16 ?_ ?_ (tk hHeld 17 ?_ ?_ ?_);iterate 2
    rotate_left
    · intro W hSw;go_simp;try (with_reducible rfl)
  refine rdy1 18 (fun K hK=>?_);go_simp;go_at_call 201;refine (iN base gw m u v ds ms fs ta2 tb2 A2 n2 c2 kk w6 (HW.o.below D6.o) HP.o).mono ?_;rintro e w7 ⟨v7,rfl,hw7,hb7,hf7⟩;go_simp;have W7:=Hd hw7;have B7:=Hd ((D6.o.mono HW.o.big).trans hb7);have C7:=Hd (show Blk w7 w.heap.size 223 (foC a) from hf7 _ _ _ C6.o (by decide) (by have:=HW.o.X.lt;omega));refine hK.o _ _ C7.o (fun hHeld=>?_);clear hK K hw7 hb7 hf7 C6 D6 D5 HP;refine tk hHeld 19 ?_ ?_ ?_;rotate_left
  · intro W hSw;go_simp;try (with_reducible rfl)
  refine wpAnyH_done (by kernel_rfl) ?_ _;go_wp2_with fail;go_ret;exact ⟨kk,v7,ds,ms,rfl,W7.o,B7.o⟩
 have q1:=(aM hz).1;clear hz;by_cases hz:u.z=16;case pos=>
  obtain ⟨p1,p2⟩:=bI hz;clear hz;go_wp2_with fail;refine (Bw base gw m u v ds ms fs 0 0 rfl H0.o w0 (HW.o.below S0.o.b)).mono ?_;rintro e w2 ⟨rfl,hb⟩;replace S0:=Hd (S0.o.below hb);clear hb;generalize hdd:bM (ds.map Dm.dv) (fs[0]'H0.o).fd (fs[0]'H0.o).fi=bd;clear hdd;cases bd;case false=>
    go_wp2_with fail;go_ret;exact ⟨_,v,ds,ms,rfl,HW.o.below S0.o.b,S0.o.b.mono HW.o.big⟩
  have b3:w2.cell? ⟨w.heap.size,3,none⟩=some (.int .i64 a.fd):=S0.o.x.cell 3;have b4:w2.cell? ⟨w.heap.size,4,none⟩=some (.int .i64 a.fi):=S0.o.x.cell 4;go_wp2_with fail;clear b3 b4;refine (wX base gw m u v ds ms fs a.fd a.fi 1 w2 (HW.o.below S0.o.b)).mono ?_;rintro e w3 ⟨⟨bm,rfl⟩,hb⟩;replace S0:=Hd (S0.o.below hb);clear hb;cases bm;case false=>
    go_wp2_with fail;go_ret;exact ⟨_,v,ds,ms,rfl,HW.o.below S0.o.b,S0.o.b.mono HW.o.big⟩
  go_upto_region 14 with fail;have DD:=Hd (show Below w.heap.size w w3.drew from aa S0.o.b (Below.refl w3.heap.size w3).drew);have C4:=Hd (show Blk w3.drew w.heap.size 223 (foC a) from S0.o.x);clear S0;refine wp_region_held_drew (S:=(fun W=>Blk W w.heap.size 223 (foC a))) (by kernel_rfl) C4.o (fun hHeld=>?_);generalize w3.drew=w4 at *;refine tk hHeld 0 ?_ ?_ (tk hHeld 1 ?_ ?_ (tk hHeld 2 ?_ ?_ (tk hHeld 3 ?_ ?_ (tk hHeld 4 ?_ ?_ (tk hHeld 6 ?_ ?_ (tk hHeld 7 ?_ ?_ (tk hHeld 8 ?_ ?_ (tk hHeld 9 ?_ ?_ (tk hHeld 11 ?_ ?_ (tk hHeld 12 ?_ ?_ ?_))))))))));iterate 11
    rotate_left
    · intro W hSw;have p3:W.cell? ⟨w.heap.size,3,none⟩=some (.int .i64 a.fd):=hSw.cell 3;have p4:W.cell? ⟨w.heap.size,4,none⟩=some (.int .i64 a.fi):=hSw.cell 4;go_simp;try (with_reducible rfl)
  refine bn [5,10] [(5,65),(10,70)] (fun W=>Below w.heap.size w W) (VTb (.agg (tbC v.ta v.tb (.slice v.At v.nt v.ct))) u.p.pid) (fun A B=>Below A.heap.size A B) 5 hHeld DD.o rfl (by kernel_rfl) (by kernel_rfl) (fun A B hb=>⟨fun h=>h.below hb,fun h=>aa h hb,fun j x' h=>h⟩) ?steps ?fin;case steps=>
    refine aY.cons (i:=5) rfl (fun uq W hSW hJW hpre K hK=>?_) ?_
    · dsimp only [bN,List.foldl];have hh:=HW.o.below hJW;have x2:W.cell? ⟨gw,2,none⟩=some (.int .i64 v.ta):=hh.X.cell 2;have x3:W.cell? ⟨gw,3,none⟩=some (.int .i64 v.tb):=hh.X.cell 3;have x4:W.cell? ⟨gw,4,none⟩=some (.slice v.At v.nt v.ct):=hh.X.cell 4;clear hh;go_simp;exact hK.o _ _ _ (by kernel_rfl) ⟨fun _=>rfl,fun h=>absurd h (by decide)⟩ (Below.refl _ _)
    refine aY.cons (i:=10) rfl (fun uq W hSW hJW hpre K hK=>?_) ?_
    · dsimp only [bN,List.foldl];have x5:W.cell? ⟨gw,5,none⟩=some (.int .i64 u.p.pid):=(HW.o.below hJW).X.cell 5;go_simp;exact hK.o _ _ _ (by kernel_rfl) ⟨fun h=>absurd h (by decide),fun _=>rfl⟩ (Below.refl _ _)
    exact aY.nil
  case fin=>
  intro uu W hHeld hJ hV;dsimp only [bN,List.foldl];have e5:=(hV 5 rfl).1 rfl;have e10:=(hV 10 rfl).2 rfl;simp only [e5,e10];go_simp;have D5:=Hd hJ;clear hV e5 e10 hJ DD;obtain ⟨ps,hps⟩:=(HW.o.below D5.o).O.tb;have HPS:=Hd hps;clear hps;refine rdy1 13 (fun K hK=>?_);go_simp;go_at_call 207;refine (Dr v.ta v.tb ps v.At v.nt v.ct HPS.o.at'.1 (by have:=HPS.o.at'.1;have:=HPS.o.few;omega) (fun x hx=>(HPS.o.op x hx).2) u.p.pid a.fd a.fi W HPS.o.at'.2).mono ?_;rintro e w6 ⟨ta2,tb2,A2,n2,c2,kk,rfl,hb,hok⟩;go_simp;have D6:=Hd (aa D5.o hb);have C6:=Hd (show Blk w6 w.heap.size 223 (foC a) from Blk.below hHeld hb);have HP:=Hd (show kk=0→∃ ps,aJ w6 base (.slice A2 n2 c2) ps from fun hk0=>by obtain ⟨p2,h1⟩:=hok hk0;exact ⟨p2,h1.low (Nat.le_trans HW.o.big D5.o.size)⟩);refine hK.o _ _ C6.o (fun hHeld=>?_);clear hK K hb hok HPS;refine tk hHeld 14 ?_ ?_ (tk hHeld 15 ?_ ?_ ?_);iterate 2
    rotate_left
    · intro W hSw;go_simp;try (with_reducible rfl)
  refine rdy1 16 (fun K hK=>?_);go_simp;go_at_call 201;refine (iN base gw m u v ds ms fs ta2 tb2 A2 n2 c2 kk w6 (HW.o.below D6.o) HP.o).mono ?_;rintro e w7 ⟨v7,rfl,hw7,hb7,hf7⟩;go_simp;have W7:=Hd hw7;have B7:=Hd ((D6.o.mono HW.o.big).trans hb7);have C7:=Hd (show Blk w7 w.heap.size 223 (foC a) from hf7 _ _ _ C6.o (by decide) (by have:=HW.o.X.lt;omega));refine hK.o _ _ C7.o (fun hHeld=>?_);clear hK K hw7 hb7 hf7 C6 D6 D5 HP;refine tk hHeld 17 ?_ ?_ ?_;rotate_left
  · intro W hSw;go_simp;try (with_reducible rfl)
  refine wpAnyH_done (by kernel_rfl) ?_ _;go_wp2_with fail;go_ret;exact ⟨kk,v7,ds,ms,rfl,W7.o,B7.o⟩
 have q16:=(aM hz).1;clear hz;by_cases hz:u.z=17;case pos=>
  obtain ⟨p1,p2⟩:=bI hz;clear hz;go_wp2_with fail;refine (Bw base gw m u v ds ms fs 0 0 rfl H0.o w0 (HW.o.below S0.o.b)).mono ?_;rintro e w2 ⟨rfl,hb⟩;replace S0:=Hd (S0.o.below hb);clear hb;generalize hdd:bM (ds.map Dm.dv) (fs[0]'H0.o).fd (fs[0]'H0.o).fi=bd;clear hdd;cases bd;case false=>
    go_wp2_with fail;go_ret;exact ⟨_,v,ds,ms,rfl,HW.o.below S0.o.b,S0.o.b.mono HW.o.big⟩
  go_upto_region 18 with fail;have S1:=Hd (show RdW w w2.drew 223 (foC a) from S0.o.below (Below.refl w2.heap.size w2).drew);go_cut [4,5] (fun p q wx=>∃ (go:Nat) (A2:Option Addr) (n2 c2:Nat) (Am2:Option Addr) (nm2 cm2:Nat) (kk:Int),p= .pointer (some ⟨go,0,none⟩)∧q= .int .i64 kk∧RdW w wx 223 (foC a)∧Blk wx go 31 (spC (slV A2 n2 c2) (slV Am2 nm2 cm2))∧(kk=0→∃ d2 m2,aC wx w.heap.size (slV A2 n2 c2) d2∧ax EMt wx w.heap.size (slV Am2 nm2 cm2) m2∧(Bp (ds.map Dm.dv) ms (u.a 0) a.fd a.fi) (d2.map Dm.dv) m2));case first=>
    refine wp_region_held_drew (S:=(fun W=>RdW w W 223 (foC a))) (by kernel_rfl) S1.o (fun hHeld=>?_);generalize w2.drew=w1 at *;refine tk hHeld 0 ?_ ?_ (tk hHeld 1 ?_ ?_ (tk hHeld 2 ?_ ?_ (tk hHeld 3 ?_ ?_ (tk hHeld 4 ?_ ?_ (tk hHeld 5 ?_ ?_ (tk hHeld 6 ?_ ?_ (tk hHeld 7 ?_ ?_ (tk hHeld 8 ?_ ?_ (tk hHeld 9 ?_ ?_ (tk hHeld 10 ?_ ?_ (tk hHeld 11 ?_ ?_ (tk hHeld 12 ?_ ?_ ?_))))))))))));iterate 13
      rotate_left
      · intro W hSw;have hh:=HW.o.below hSw.b;have x0:W.cell? ⟨gw,0,none⟩=some (.slice v.A v.n v.c):=hh.X.cell 0;have x1:W.cell? ⟨gw,1,none⟩=some (.slice v.Am v.nm v.cm):=hh.X.cell 1;have x20:W.cell? ⟨gw,20,none⟩=some (.int .i64 (u.a 0)):=hh.X.cell 20;have p3:W.cell? ⟨w.heap.size,3,none⟩=some (.int .i64 a.fd):=hSw.x.cell 3;have p4:W.cell? ⟨w.heap.size,4,none⟩=some (.int .i64 a.fi):=hSw.x.cell 4;clear hh;go_simp;try (with_reducible rfl)
    refine wpAnyH_ready (rs:= [13,17]) (by kernel_rfl) (by simp) ?_;refine AllReadyH.cons rfl (fun K hK=>?_) (AllReadyH.cons rfl (fun K hK=>?_) AllReadyH.nil)
    · go_simp;go_at_call 59;refine (Bq (u.a 0) a.fd a.fi ds v.A v.n v.c HW.o.O.few.2.2 ms v.Am v.nm v.cm HW.o.O.few.1 (by have:=HW.o.O.few.2.1;omega) w1 (HW.o.below (S1.o).b).files (HW.o.below (S1.o).b).aR).mono ?_;intro e we hp;obtain ⟨A2,n2,c2,Am2,nm2,cm2,kk,rfl,hb,hok⟩:=hp.uC;have hws:=((S1.o).b).size;have pY:=Hd (show kk=0→∃ d2 m2,aC we w.heap.size (slV A2 n2 c2) d2∧ax EMt we w.heap.size (slV Am2 nm2 cm2) m2∧(Bp (ds.map Dm.dv) ms (u.a 0) a.fd a.fi) (d2.map Dm.dv) m2 from fun hk=>by obtain ⟨d2,m2,h1,h2,h3⟩:=hok hk;exact ⟨d2,m2,h1.low hws,h2.low hws,h3⟩);clear hok hws;go_simp;have SA:=Hd (show RdW w we 223 (foC a) from (S1.o).below hb);refine hK.o _ _ SA.o (fun hHeld=>?_);clear hK K;refine tk hHeld 14 ?_ ?_ (tk hHeld 15 ?_ ?_ (tk hHeld 16 ?_ ?_ ?_));iterate 3
        rotate_left
        · intro W hSw;go_simp;try (with_reducible rfl)
      have hba:=(Below.refl we.heap.size we).alloc (Nat.le_refl _) (.cells #[.slice none 0 0, .slice none 0 0] 31);have S2:=Hd (show RdW w (we.alloc (.cells #[.slice none 0 0, .slice none 0 0] 31)) 223 (foC a) from (SA.o).below hba);have Q2:=Hd (Blk.new we #[.slice none 0 0, .slice none 0 0] 31);have HGB:=Hd (show w.heap.size+1≤we.heap.size from (SA.o).lt);have HOK:=Hd (show kk=0→∃ d2 m2,aC (we.alloc (.cells #[.slice none 0 0, .slice none 0 0] 31)) w.heap.size (slV A2 n2 c2) d2∧ax EMt (we.alloc (.cells #[.slice none 0 0, .slice none 0 0] 31)) w.heap.size (slV Am2 nm2 cm2) m2∧(Bp (ds.map Dm.dv) ms (u.a 0) a.fd a.fi) (d2.map Dm.dv) m2 from fun hk=>by obtain ⟨d2,m2,h1,h2,h3⟩:=pY.o hk;exact ⟨d2,m2,h1.below hba,h2.below hba,h3⟩);clear pY;refine rdy1 17 (fun K hK=>?_);go_simp;refine hK.o _ _ S2.o (fun hHeld=>?_);clear hK K;clear hba hb SA;generalize we.alloc (.cells #[.slice none 0 0, .slice none 0 0] 31)=Wz at *;generalize we.heap.size=gb at *;refine rdy1 18 (fun K hK=>?_);refine ag (by rfl) 31 (.tmp 4) (.tmp 97) (by rfl) Q2.o (spC (slV A2 n2 c2) (slV Am2 nm2 cm2)) ?_ ?_ (gH _ _) rfl (eD _ _ _ _ _ _) ?_
      · go_simp
      · go_simp
      have S3:=Hd (show RdW w (Wz.setRow gb (spC (slV A2 n2 c2) (slV Am2 nm2 cm2))) 223 (foC a) from (S2.o).row HGB.o _);have Q3:=Hd (Q2.o.row (spC (slV A2 n2 c2) (slV Am2 nm2 cm2)));have mU:=Hd (show kk=0→∃ d2 m2,aC (Wz.setRow gb (spC (slV A2 n2 c2) (slV Am2 nm2 cm2))) w.heap.size (slV A2 n2 c2) d2∧ax EMt (Wz.setRow gb (spC (slV A2 n2 c2) (slV Am2 nm2 cm2))) w.heap.size (slV Am2 nm2 cm2) m2∧(Bp (ds.map Dm.dv) ms (u.a 0) a.fd a.fi) (d2.map Dm.dv) m2 from fun hk=>by obtain ⟨d2,m2,h1,h2,h3⟩:=HOK.o hk;exact ⟨d2,m2,h1.lu Q2.o (aA Wz gb _) (by decide) (by decide) (by decide),h2.far (aA Wz gb _) (fun q e r=>by injection r with r;subst r;exact ay h2 Q2.o (by decide) e),h3⟩);refine hK.o _ _ S3.o (fun hHeld=>?_);clear hK K;generalize Wz.setRow gb (spC (slV A2 n2 c2) (slV Am2 nm2 cm2))=Wy at *;refine tk hHeld 19 ?_ ?_ ?_;rotate_left
      · intro W hSw;go_simp;try (with_reducible rfl)
      refine wpAnyH_done (by kernel_rfl) ?_ _;go_wp2_with fail;go_meet;exact ⟨gb,A2,n2,c2,Am2,nm2,cm2,kk,rfl,rfl,S3.o,Q3.o,mU.o⟩
    · go_simp;have hba:=(Below.refl w1.heap.size w1).alloc (Nat.le_refl _) (.cells #[.slice none 0 0, .slice none 0 0] 31);have SA:=Hd (show RdW w (w1.alloc (.cells #[.slice none 0 0, .slice none 0 0] 31)) 223 (foC a) from (S1.o).below hba);have QA:=Hd (Blk.new w1 #[.slice none 0 0, .slice none 0 0] 31);have HGB:=Hd (show w.heap.size+1≤w1.heap.size from (S1.o).lt);refine hK.o _ _ SA.o (fun hHeld=>?_);clear hK K hba;generalize w1.alloc (.cells #[.slice none 0 0, .slice none 0 0] 31)=w1b at *;generalize w1.heap.size=gb at *;refine rdy1 13 (fun K hK=>?_);go_simp;go_at_call 59;refine (Bq (u.a 0) a.fd a.fi ds v.A v.n v.c HW.o.O.few.2.2 ms v.Am v.nm v.cm HW.o.O.few.1 (by have:=HW.o.O.few.2.1;omega) w1b (HW.o.below (SA.o).b).files (HW.o.below (SA.o).b).aR).mono ?_;intro e we hp;obtain ⟨A2,n2,c2,Am2,nm2,cm2,kk,rfl,hb,hok⟩:=hp.uC;have hws:=((SA.o).b).size;have pY:=Hd (show kk=0→∃ d2 m2,aC we w.heap.size (slV A2 n2 c2) d2∧ax EMt we w.heap.size (slV Am2 nm2 cm2) m2∧(Bp (ds.map Dm.dv) ms (u.a 0) a.fd a.fi) (d2.map Dm.dv) m2 from fun hk=>by obtain ⟨d2,m2,h1,h2,h3⟩:=hok hk;exact ⟨d2,m2,h1.low hws,h2.low hws,h3⟩);clear hok hws;go_simp;have S2:=Hd (show RdW w we 223 (foC a) from (SA.o).below hb);have Q2:=Hd (QA.o.below hb);have HOK:=pY;clear pY;refine hK.o _ _ S2.o (fun hHeld=>?_);clear hK K hb SA QA;generalize we=Wz at *;refine tk hHeld 14 ?_ ?_ (tk hHeld 15 ?_ ?_ (tk hHeld 16 ?_ ?_ ?_));iterate 3
        rotate_left
        · intro W hSw;go_simp;try (with_reducible rfl)
      refine rdy1 18 (fun K hK=>?_);refine ag (by rfl) 31 (.tmp 4) (.tmp 97) (by rfl) Q2.o (spC (slV A2 n2 c2) (slV Am2 nm2 cm2)) ?_ ?_ (gH _ _) rfl (eD _ _ _ _ _ _) ?_
      · go_simp
      · go_simp
      have S3:=Hd (show RdW w (Wz.setRow gb (spC (slV A2 n2 c2) (slV Am2 nm2 cm2))) 223 (foC a) from (S2.o).row HGB.o _);have Q3:=Hd (Q2.o.row (spC (slV A2 n2 c2) (slV Am2 nm2 cm2)));have mU:=Hd (show kk=0→∃ d2 m2,aC (Wz.setRow gb (spC (slV A2 n2 c2) (slV Am2 nm2 cm2))) w.heap.size (slV A2 n2 c2) d2∧ax EMt (Wz.setRow gb (spC (slV A2 n2 c2) (slV Am2 nm2 cm2))) w.heap.size (slV Am2 nm2 cm2) m2∧(Bp (ds.map Dm.dv) ms (u.a 0) a.fd a.fi) (d2.map Dm.dv) m2 from fun hk=>by obtain ⟨d2,m2,h1,h2,h3⟩:=HOK.o hk;exact ⟨d2,m2,h1.lu Q2.o (aA Wz gb _) (by decide) (by decide) (by decide),h2.far (aA Wz gb _) (fun q e r=>by injection r with r;subst r;exact ay h2 Q2.o (by decide) e),h3⟩);refine hK.o _ _ S3.o (fun hHeld=>?_);clear hK K;generalize Wz.setRow gb (spC (slV A2 n2 c2) (slV Am2 nm2 cm2))=Wy at *;refine tk hHeld 19 ?_ ?_ ?_;rotate_left
      · intro W hSw;go_simp;try (with_reducible rfl)
      refine wpAnyH_done (by kernel_rfl) ?_ _;go_wp2_with fail;go_meet;exact ⟨gb,A2,n2,c2,Am2,nm2,cm2,kk,rfl,rfl,S3.o,Q3.o,mU.o⟩
  case rest=>
  obtain ⟨go,A2,n2,c2,Am2,nm2,cm2,kk,rfl,rfl,hs8,hq8,BC⟩:=hcut;have S8:=Hd hs8;have Q8:=Hd hq8;have mU:=Hd BC;clear hs8 hq8 BC S1;generalize hwc:wc=w8 at *;clear hwc;clear S0;have W8:=Hd (HW.o.below S8.o.b);have B8:=Hd (S8.o.b.mono HW.o.big);by_cases hkk:kk=0;case neg=>
    obtain ⟨p1,p2⟩:=aM hkk;clear hkk;go_wp2_with fail;go_ret;exact ⟨kk,v,ds,ms,rfl,W8.o,B8.o⟩
  subst hkk;obtain ⟨d2,m2,h1,h2,h3⟩:=mU.o rfl;have H1:=Hd (h1.low HW.o.big);have H2:=Hd (h2.low HW.o.big);have H3:=Hd (HW.o.O.so.add h3);clear h1 h2 h3;have x0:w8.cell? ⟨gw,0,none⟩=some (.slice v.A v.n v.c):=W8.o.X.cell 0;have f0:=W8.o.X.free 0;have x1:w8.cell? ⟨gw,1,none⟩=some (.slice v.Am v.nm v.cm):=W8.o.X.cell 1;have f1:=W8.o.X.free 1;have o0:w8.cell? ⟨go,0,none⟩=some (.slice A2 n2 c2):=Q8.o.cell 0;have o1:w8.cell? ⟨go,1,none⟩=some (.slice Am2 nm2 cm2):=Q8.o.cell 1;have W9:=Hd (W8.o.MM H1.o H2.o H3.o);have B9:=Hd ((B8.o.setCell (p:=⟨gw,0,none⟩) HW.o.hb (.slice A2 n2 c2)).setCell (p:=⟨gw,1,none⟩) HW.o.hb (.slice Am2 nm2 cm2));go_wp2_with fail;go_ret;exact ⟨0,_,d2,m2,rfl,W9.o,B9.o⟩
 have q17:=(aM hz).1;clear hz;go_wp2_with fail;refine (Bw base gw m u v ds ms fs 0 0 rfl H0.o w0 (HW.o.below S0.o.b)).mono ?_;rintro e w2 ⟨rfl,hb⟩;replace S0:=Hd (S0.o.below hb);clear hb;generalize hdd:bM (ds.map Dm.dv) (fs[0]'H0.o).fd (fs[0]'H0.o).fi=bd;clear hdd;cases bd;case true=>
  go_wp2_with fail;go_ret;exact ⟨_,v,ds,ms,rfl,HW.o.below S0.o.b,S0.o.b.mono HW.o.big⟩
 have b3:w2.cell? ⟨w.heap.size,3,none⟩=some (.int .i64 a.fd):=S0.o.x.cell 3;have b4:w2.cell? ⟨w.heap.size,4,none⟩=some (.int .i64 a.fi):=S0.o.x.cell 4;go_wp2_with fail;clear b3 b4;refine (wX base gw m u v ds ms fs a.fd a.fi 2 w2 (HW.o.below S0.o.b)).mono ?_;rintro e w3 ⟨⟨bm,rfl⟩,hb⟩;replace S0:=Hd (S0.o.below hb);clear hb;cases bm;case false=>
  go_wp2_with fail;go_ret;exact ⟨_,v,ds,ms,rfl,HW.o.below S0.o.b,S0.o.b.mono HW.o.big⟩
 go_wp2_with fail;go_ret;exact ⟨_,v,ds,ms,rfl,HW.o.below S0.o.b,S0.o.b.mono HW.o.big⟩
end Go.Proofs.YtollifnnpihfdaaGreatDoor
