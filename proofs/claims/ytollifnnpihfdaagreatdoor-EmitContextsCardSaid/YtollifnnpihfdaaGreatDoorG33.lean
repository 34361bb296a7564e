import Derived.Test.YtollifnnpihfdaaGreatDoorG29
import Derived.Test.YtollifnnpihfdaaGreatDoorG32
set_option maxRecDepth 100000
set_option maxHeartbeats 64000000
set_option linter.all false
namespace Go.Proofs.YtollifnnpihfdaaGreatDoor
open Go.RowKit
structure SrF (w wr:World) (A:Option Addr) (n c:Nat) (ds:List Dm) (Am:Option Addr) (nm cm:Nat) (ms:List Mt) (d i:Int):Prop where
 low:Below w.heap.size w wr
 src:bR wr w.heap.size A ds
 mts:AtE EMt wr w.heap.size Am ms
 V:Blk wr w.heap.size 31 #[slV A n c,slV Am nm cm]
 U:Blk wr (w.heap.size+1) 44 #[.int .i64 d, .int .i64 i]
section
variable {w wr w' :World} {A Am:Option Addr} {n c nm cm:Nat} {ds:List Dm} {ms:List Mt} {d i:Int}
theorem SrF.grow (h:SrF w wr A n c ds Am nm cm ms d i) (hb:Below wr.heap.size wr w'):SrF w w' A n c ds Am nm cm ms d i:=
 ⟨h.low.trans (hb.mono h.low.size),h.src.keep hb h.low.size,h.mts.keep hb h.low.size,h.V.below hb,h.U.below hb⟩
theorem SrF.alloc (h:SrF w wr A n c ds Am nm cm ms d i) (o:Obj):SrF w (wr.alloc o) A n c ds Am nm cm ms d i:=h.grow ((Below.refl _ _).alloc (Nat.le_refl _) _)
theorem SrF.files (h:SrF w wr A n c ds Am nm cm ms d i):bR wr wr.heap.size A ds:=h.src.more h.low.size
theorem SrF.bN (h:SrF w wr A n c ds Am nm cm ms d i):AtE EMt wr wr.heap.size Am ms:=h.mts.more h.low.size
theorem SrF.start (w:World) (hf:bR w w.heap.size A ds) (hm:AtE EMt w w.heap.size Am ms):SrF w ((w.alloc (.cells #[slV A n c,slV Am nm cm] 31)).alloc (.cells #[.int .i64 d, .int .i64 i] 44)) A n c ds Am nm cm ms d i:=by
 have B0:=dI w #[slV A n c,slV Am nm cm] #[.int .i64 d, .int .i64 i] 31 44;have h2:=Blk.new (w.alloc (.cells #[slV A n c,slV Am nm cm] 31)) #[.int .i64 d, .int .i64 i] 44;simp only [World.size_alloc] at h2;exact ⟨B0,hf.keep B0 (Nat.le_refl _),hm.keep B0 (Nat.le_refl _),(Blk.new w _ _).alloc _,h2⟩
end
def WhP (s:ByteArray) (b:Bool) (w:World) (e:Ending) (w' :World):Prop:=e= .returned (.tuple #[.string s, .bool b])∧Below w.heap.size w w'
theorem wY {ms:List Mt} {dev a b:Int} (h:onF ms dev=some (a,b)):onR ms dev=(a,b,true):=by unfold onR;rw [h]
theorem wZ {ms:List Mt} {dev:Int} (h:onF ms dev=none):onR ms dev=(0,0,false):=by unfold onR;rw [h]
theorem AY {ms:List Mt} {dev a b:Int} (h:onF ms dev=some (a,b)):iH ms dev=true:=by unfold iH;rw [h];rfl
theorem tO (dev ino:Int) (ds:List Dm) (A:Option Addr) (n c:Nat) (hn:n=ds.length) (ms:List Mt) (Am:Option Addr) (nm cm:Nat) (hnm:nm=ms.length) (hl:nm≤1000) (w:World) (hf:bR w w.heap.size A ds) (hm:AtE EMt w w.heap.size Am ms)
  (hno:(dz (ds.map Dm.dv) dev ino && iH ms dev)=false):
  Calls Tryz.prog 28 #[.agg #[slV A n c,slV Am nm cm],flV dev ino] w (WhP ⟨#[]⟩ false w):=by
 have HN:=Hd hn;have HNM:=Hd hnm;have HL:=Hd hl;have S0:=Hd (SrF.start (n:=n) (c:=c) (nm:=nm) (cm:=cm) (d:=dev) (i:=ino) w hf hm);clear hf hm hn hnm hl;go_in;go_upto_region 1 with fail;generalize (w.alloc (.cells #[slV A n c,slV Am nm cm] 31)).alloc (.cells #[.int .i64 (dev), .int .i64 (ino)] 44)=w0 at *;have v0:=S0.o.V.cell 0;have v1:=S0.o.V.cell 1;have u0:=S0.o.U.cell 0;have u1:=S0.o.U.cell 1;go_wp2_with fail;clear v0 v1 u0 u1;refine (lU dev ino ds A n c HN.o w0 S0.o.files).mono ?_;rintro e w1 ⟨rfl,hb⟩;have S1:=Hd (S0.o.grow hb);clear hb;cases hd:dz (ds.map Dm.dv) dev ino with
 | false=>
  clear hd hno;go_wp2_with fail;refine bodyPost_ret (dh (fn:=Tryz.f28) rfl _ _) rfl ?_;exact ⟨rfl,S1.o.low⟩
 | true=>
  rw [hd,Bool.true_and] at hno;clear hd;have v0:=S1.o.V.cell 0;have v1:=S1.o.V.cell 1;have u0:=S1.o.U.cell 0;have u1:=S1.o.U.cell 1;go_wp2_with fail;clear v0 v1 u0 u1;refine (yc dev A n c ms Am nm cm HNM.o HL.o w1 S1.o.bN).mono ?_;rintro e w2 ⟨rfl,hb⟩;have S2:=Hd (S1.o.grow hb);clear hb;rw [hno];clear hno;go_wp2_with fail;refine bodyPost_ret (dh (fn:=Tryz.f28) rfl _ _) rfl ?_;exact ⟨rfl,S2.o.low⟩
theorem tQ (ds:List Dm) (A:Option Addr) (n c:Nat) (hn:n=ds.length) (ms:List Mt) (Am:Option Addr) (nm cm:Nat) (hnm:nm=ms.length) (hl:nm≤1000) (hok:FOk (ds.map Dm.dv)) (hz:onF ms 0=none) {k:Nat} {dev ino:Int} {L:List ByteArray} (h:mq (ds.map Dm.dv) ms k dev ino L):
  L.length≤45→∀ (w:World),bR w w.heap.size A ds→AtE EMt w w.heap.size Am ms→Calls Tryz.prog 28 #[.agg #[slV A n c,slV Am nm cm],flV dev ino] w (WhP (jO L) true w):=by
 induction h with
 | top h1 h2=>
  intro _ w hf hm;have hm0:iH ms 0=true:=by unfold iH;rw [h1];rfl
  have HON:=Hd (wZ h1);have HN:=Hd hn;have HNM:=Hd hnm;have HL:=Hd hl;have S0:=Hd (SrF.start (n:=n) (c:=c) (nm:=nm) (cm:=cm) (d:=0) (i:=1) w hf hm);clear hf hm hn hnm hl;go_in;go_upto_region 1 with fail;generalize (w.alloc (.cells #[slV A n c,slV Am nm cm] 31)).alloc (.cells #[.int .i64 (0), .int .i64 (1)] 44)=w0 at *;have v0:=S0.o.V.cell 0;have v1:=S0.o.V.cell 1;have u0:=S0.o.U.cell 0;have u1:=S0.o.U.cell 1;go_wp2_with fail;clear v0 v1 u0 u1;refine (lU 0 1 ds A n c HN.o w0 S0.o.files).mono ?_;rintro e w1 ⟨rfl,hb⟩;have S1:=Hd (S0.o.grow hb);clear hb;rw [h2];have v0:=S1.o.V.cell 0;have v1:=S1.o.V.cell 1;have u0:=S1.o.U.cell 0;have u1:=S1.o.U.cell 1;go_wp2_with fail;clear v0 v1 u0 u1;refine (yc 0 A n c ms Am nm cm HNM.o HL.o w1 S1.o.bN).mono ?_;rintro e w2 ⟨rfl,hb⟩;have S2:=Hd (S1.o.grow hb);clear hb;rw [hm0];clear S0 S1;have v0:=S2.o.V.cell 0;have v1:=S2.o.V.cell 1;have u0:=S2.o.U.cell 0;have u1:=S2.o.U.cell 1;go_wp2_with fail;clear v0 v1 u0 u1;refine (ron 0 A n c ms Am nm cm HNM.o HL.o w2 S2.o.bN).mono ?_;rintro e w3 ⟨rfl,hb⟩;have S3:=Hd (S2.o.grow hb);clear hb;rw [HON.o];go_wp2_with fail;refine bodyPost_ret (dh (fn:=Tryz.f28) rfl _ _) rfl ?_;exact ⟨rfl,(S3.o.alloc _).low⟩
 | @over h' dev a b L h1 h0 h2 _ ih=>
  intro hlen w hf hm;have hmd:=AY h2;have HON:=Hd (wY h2);have HN:=Hd hn;have HNM:=Hd hnm;have HL:=Hd hl;have S0:=Hd (SrF.start (n:=n) (c:=c) (nm:=nm) (cm:=cm) (d:=dev) (i:=1) w hf hm);clear hf hm hn hnm hl;go_in;go_upto_region 1 with fail;generalize (w.alloc (.cells #[slV A n c,slV Am nm cm] 31)).alloc (.cells #[.int .i64 (dev), .int .i64 (1)] 44)=w0 at *;have v0:=S0.o.V.cell 0;have v1:=S0.o.V.cell 1;have u0:=S0.o.U.cell 0;have u1:=S0.o.U.cell 1;go_wp2_with fail;clear v0 v1 u0 u1;refine (lU dev 1 ds A n c HN.o w0 S0.o.files).mono ?_;rintro e w1 ⟨rfl,hb⟩;have S1:=Hd (S0.o.grow hb);clear hb;rw [h1];have v0:=S1.o.V.cell 0;have v1:=S1.o.V.cell 1;have u0:=S1.o.U.cell 0;have u1:=S1.o.U.cell 1;go_wp2_with fail;clear v0 v1 u0 u1;refine (yc dev A n c ms Am nm cm HNM.o HL.o w1 S1.o.bN).mono ?_;rintro e w2 ⟨rfl,hb⟩;have S2:=Hd (S1.o.grow hb);clear hb;rw [hmd];clear S0 S1;have v0:=S2.o.V.cell 0;have v1:=S2.o.V.cell 1;have u0:=S2.o.U.cell 0;have u1:=S2.o.U.cell 1;go_wp2_with fail;clear v0 v1 u0 u1;refine (ron dev A n c ms Am nm cm HNM.o HL.o w2 S2.o.bN).mono ?_;rintro e w3 ⟨rfl,hb⟩;have S3:=Hd (S2.o.grow hb);clear hb;rw [HON.o];have S4:=Hd (S3.o.alloc (.cells #[.int .i64 a, .int .i64 b] 44));have O4:=Hd (Blk.new w3 #[.int .i64 a, .int .i64 b] 44);clear S2 S3;go_upto_region 6 with fail;generalize w3.alloc (.cells #[.int .i64 a, .int .i64 b] 44)=w4 at *;have v0:=S4.o.V.cell 0;have v1:=S4.o.V.cell 1;have u0:=S4.o.U.cell 0;have u1:=S4.o.U.cell 1;have o0:=O4.o.cell 0;have o1:=O4.o.cell 1;go_wp2_with fail;clear v0 v1 u0 u1;clear o0 o1;refine (ih hlen w4 S4.o.files S4.o.bN).mono ?_;rintro e w5 ⟨rfl,hb⟩;have S5:=Hd (S4.o.grow hb);clear hb;go_wp2_with fail;refine bodyPost_ret (dh (fn:=Tryz.f28) rfl _ _) rfl ?_;exact ⟨rfl,S5.o.low⟩
 | @step h' dev ino nd L h1 h2 h3 h4 Nf ih=>
  intro hlen w hf hm;have hlen' :L.length≤44:=by rw [List.length_append,List.length_singleton] at hlen;omega
  have HPS:=Hd (kW (Nf.names hok) (by omega));have HNS:=Hd (kV hok dev ino);have HSN:=Hd (o7 L (fT (ds.map Dm.dv) dev ino));have Ot:dz (ds.map Dm.dv) dev ino=true:=by unfold dz;rw [h1];simpa using h2
  have p1:=(bT h3).1;have HQ:=Hd h1;clear h1 h2 h3 hlen Nf;have HN:=Hd hn;have HNM:=Hd hnm;have HL:=Hd hl;have S0:=Hd (SrF.start (n:=n) (c:=c) (nm:=nm) (cm:=cm) (d:=dev) (i:=ino) w hf hm);clear hf hm hn hnm hl;go_in;go_upto_region 1 with fail;generalize (w.alloc (.cells #[slV A n c,slV Am nm cm] 31)).alloc (.cells #[.int .i64 (dev), .int .i64 (ino)] 44)=w0 at *;have v0:=S0.o.V.cell 0;have v1:=S0.o.V.cell 1;have u0:=S0.o.U.cell 0;have u1:=S0.o.U.cell 1;go_wp2_with fail;clear v0 v1 u0 u1;refine (lU dev ino ds A n c HN.o w0 S0.o.files).mono ?_;rintro e w1 ⟨rfl,hb⟩;have S1:=Hd (S0.o.grow hb);clear hb;rw [Ot];have v0:=S1.o.V.cell 0;have v1:=S1.o.V.cell 1;have u0:=S1.o.U.cell 0;have u1:=S1.o.U.cell 1;go_wp2_with fail;clear v0 v1 u0 u1;refine (yc dev A n c ms Am nm cm HNM.o HL.o w1 S1.o.bN).mono ?_;rintro e w2 ⟨rfl,hb⟩;have S2:=Hd (S1.o.grow hb);clear hb;rw [h4];clear S0 S1;have v0:=S2.o.V.cell 0;have v1:=S2.o.V.cell 1;have u0:=S2.o.U.cell 0;have u1:=S2.o.U.cell 1;go_wp2_with fail;clear v0 v1 u0 u1;refine (fG dev ino ds A n c HN.o w2 S2.o.files).mono ?_;intro e w3 hp;rw [HQ.o] at hp;obtain ⟨A2,c2,rfl,ho,hb,hsz⟩:=hp;have S4:=Hd ((S2.o.grow hb).alloc (.cells (ndC nd (.slice A2 nd.es.length c2)) 145));have D4:=Hd (Blk.new w3 (ndC nd (.slice A2 nd.es.length c2)) 145);clear ho hb hsz S2;go_upto_region 9 with fail;generalize w3.alloc (.cells (ndC nd (.slice A2 nd.es.length c2)) 145)=w4 at *;have v0:=S4.o.V.cell 0;have v1:=S4.o.V.cell 1;have u0:=S4.o.U.cell 0;have u1:=S4.o.U.cell 1;have d5:=D4.o.cell 5;go_wp2_with fail;clear v0 v1 u0 u1;clear d5 D4;refine (ih (by omega) w4 S4.o.files S4.o.bN).mono ?_;rintro e w5 ⟨rfl,hb⟩;have S5:=Hd (S4.o.grow hb);clear hb;have v0:=S5.o.V.cell 0;have v1:=S5.o.V.cell 1;have u0:=S5.o.U.cell 0;have u1:=S5.o.U.cell 1;go_wp2_with fail;clear v0 v1 u0 u1;refine (KI dev ino ds A n c HN.o w5 S5.o.files).mono ?_;rintro e w6 ⟨rfl,hb⟩;have S6:=Hd (S5.o.grow hb);clear hb;generalize hpt:jO L=pl at *;generalize hnn:fT (ds.map Dm.dv) dev ino=nn at *;clear hpt hnn;go_wp2_with fail;refine (FM pl nn (by have:=HPS.o;omega) (by have:=HNS.o;omega) w6).mono ?_;rintro e w7 ⟨rfl,rfl⟩;go_wp2_with fail;refine bodyPost_ret (dh (fn:=Tryz.f28) rfl _ _) rfl ?_;exact ⟨by rw [HSN.o];rfl,S6.o.low⟩
theorem Pw (a:Addr) (w:World):(loadVar 203 a).run Tryz.prog w=(load a).run Tryz.prog w:=by
 unfold loadVar;simp [go_sem]
theorem FX {w:World} {g:Nat} {x:Ru} (h:dF w g x.r x.sl):(loadVar 90 ⟨g,0,none⟩).run Tryz.prog w= .ok (oF x.r x.sl) w:=run_loadVar_row w g _ _ _ _ _ h Tryz.underlying90 rfl (iN _ _)
structure ClB (w:World) (g5 g6 g7:Nat) (li:Int) (c:Ctx) (r:aN) (it:Value):Prop where
 x5:Blk w g5 3 #[.int .i64 li]
 x6:Blk w g6 203 #[.slice none 0 0]
 x7:aR w g7 c r it
theorem ClB.below {w w' :World} {g5 g6 g7:Nat} {li:Int} {c:Ctx} {r:aN} {it:Value} (h:ClB w g5 g6 g7 li c r it) (hb:Below w.heap.size w w'):ClB w' g5 g6 g7 li c r it:=⟨h.x5.below hb,h.x6.below hb,h.x7.below hb⟩
attribute [-go_sem] loadVar
attribute [local go_sem] EA EB Iu Iw Iy Pw
attribute [local irreducible] aV hasB ai iC bQ
theorem Iz (x:Ru) (k:Nat) (g5 g6 g7:Nat) (li:Int) (cx:Ctx) (cr:aN) (Ai:Option Addr) (ni ci:Nat) (L:List (Itm×aD)) (hni:ni=L.length) (hlen:ni≤1000000) (w:World) (hc:ClB w g5 g6 g7 li cx cr (.slice Ai ni ci)) (hT:aY w w.heap.size x.A x.r.ts) (hg:GdR x.r) (hI:aU w w.heap.size Ai L):
  Calls Tryz.prog 221 #[.int .i64 (k:Int),oF x.r x.sl, .pointer (some ⟨g5,0,none⟩), .pointer (some ⟨g6,0,none⟩), .pointer (some ⟨g7,0,none⟩)] w (Lj (x.r.li == li && bQ cx cr.n (L.map (·.1)) false x.r) w):=by
 have B0:=Hd ((Below.refl w.heap.size w).alloc (Nat.le_refl _) (.cells (bK x.r x.sl) 90));have X0:=Hd (show dF (w.alloc (.cells (bK x.r x.sl) 90)) w.heap.size x.r x.sl from Blk.new w _ _);have K0:=Hd (hc.below B0.o);have T0:=Hd (hT.keep B0.o (Nat.le_refl _));have I0:=Hd (hI.keep B0.o (Nat.le_refl _));have HG:=Hd hg;have HNI:=Hd hni;have HLN:=Hd hlen;have kz:¬ (k:Int) < 0:=by omega
 clear hc hT hI hg hni hlen;go_in;go_upto_region 1 with fail;generalize w.alloc (.cells (bK x.r x.sl) 90)=W at *;cases hli:(x.r.li == li) with
 | false=>
  refine wp_region_held_drew (S:=(fun W' =>Below W.heap.size W W')) (by kernel_rfl) (Below.refl _ _).drew (fun hHeld=>?_);refine tk hHeld 0 ?_ ?_ (tk hHeld 1 ?_ ?_ (tk hHeld 2 ?_ ?_ (tk hHeld 3 ?_ ?_ (tk hHeld 4 ?_ ?_ ?_))));iterate 5
   rotate_left
   · intro w' hSw;have q0:=(X0.o.below hSw).cell 0;have q5:=(K0.o.below hSw).x5.cell 0;go_simp;first | (with_reducible rfl) | (rw [if_neg (by first | omega | (simp;omega))])
  refine wpAnyH_take (i:=5) (v:=undef) rfl (by kernel_rfl) (by kernel_rfl) (by kernel_rfl) (fun _ _ _ h=>h) (Or.inr ⟨by kernel_rfl,rfl⟩) hHeld ?_;refine wpAnyH_take (i:=6) (v:=undef) rfl (by kernel_rfl) (by kernel_rfl) (by kernel_rfl) (fun _ _ _ h=>h) (Or.inr ⟨by kernel_rfl,rfl⟩) hHeld ?_;refine wpAnyH_take (i:=7) (v:=undef) rfl (by kernel_rfl) (by kernel_rfl) (by kernel_rfl) (fun _ _ _ h=>h) (Or.inr ⟨by kernel_rfl,rfl⟩) hHeld ?_;refine wpAnyH_take (i:=8) (v:=undef) rfl (by kernel_rfl) (by kernel_rfl) (by kernel_rfl) (fun _ _ _ h=>h) (Or.inr ⟨by kernel_rfl,rfl⟩) hHeld ?_;refine wpAnyH_take (i:=9) (v:=undef) rfl (by kernel_rfl) (by kernel_rfl) (by kernel_rfl) (fun _ _ _ h=>h) (Or.inr ⟨by kernel_rfl,rfl⟩) hHeld ?_;refine wpAnyH_take (i:=10) (v:=undef) rfl (by kernel_rfl) (by kernel_rfl) (by kernel_rfl) (fun _ _ _ h=>h) (Or.inr ⟨by kernel_rfl,rfl⟩) hHeld ?_;refine wpAnyH_take (i:=11) (v:=undef) rfl (by kernel_rfl) (by kernel_rfl) (by kernel_rfl) (fun _ _ _ h=>h) (Or.inr ⟨by kernel_rfl,rfl⟩) hHeld ?_;refine wpAnyH_take (i:=12) (v:=undef) rfl (by kernel_rfl) (by kernel_rfl) (by kernel_rfl) (fun _ _ _ h=>h) (Or.inr ⟨by kernel_rfl,rfl⟩) hHeld ?_;refine wpAnyH_take (i:=13) (v:=undef) rfl (by kernel_rfl) (by kernel_rfl) (by kernel_rfl) (fun _ _ _ h=>h) (Or.inr ⟨by kernel_rfl,rfl⟩) hHeld ?_;refine wpAnyH_take (i:=14) (v:=undef) rfl (by kernel_rfl) (by kernel_rfl) (by kernel_rfl) (fun _ _ _ h=>h) (Or.inr ⟨by kernel_rfl,rfl⟩) hHeld ?_;refine wpAnyH_take (i:=15) (v:=undef) rfl (by kernel_rfl) (by kernel_rfl) (by kernel_rfl) (fun _ _ _ h=>h) (Or.inr ⟨by kernel_rfl,rfl⟩) hHeld ?_;refine wpAnyH_take (i:=16) (v:=undef) rfl (by kernel_rfl) (by kernel_rfl) (by kernel_rfl) (fun _ _ _ h=>h) (Or.inr ⟨by kernel_rfl,rfl⟩) hHeld ?_;refine wpAnyH_take (i:=17) (v:=undef) rfl (by kernel_rfl) (by kernel_rfl) (by kernel_rfl) (fun _ _ _ h=>h) (Or.inr ⟨by kernel_rfl,rfl⟩) hHeld ?_;refine tk hHeld 18 ?_ ?_ (tk hHeld 19 ?_ ?_ ?_);iterate 2
   rotate_left
   · intro w' hSw;go_simp;first | (with_reducible rfl) | (rw [if_neg (by first | omega | (simp;omega))])
  refine wpAnyH_done (by kernel_rfl) ?_ _;go_simp;go_wp2_with fail;go_ret;exact ⟨rfl,B0.o.trans (hHeld.mono B0.o.size)⟩
 | true=>
  refine wp_region_held_drew (S:=(fun W' =>Below W.heap.size W W')) (by kernel_rfl) (Below.refl _ _).drew (fun hHeld=>?_);refine tk hHeld 0 ?_ ?_ (tk hHeld 1 ?_ ?_ (tk hHeld 2 ?_ ?_ (tk hHeld 3 ?_ ?_ (tk hHeld 4 ?_ ?_ (tk hHeld 5 ?_ ?_ (tk hHeld 6 ?_ ?_ (tk hHeld 7 ?_ ?_ (tk hHeld 8 ?_ ?_ (tk hHeld 9 ?_ ?_ (tk hHeld 10 ?_ ?_ ?_))))))))));iterate 11
   rotate_left
   · intro w' hSw;have q0:=(X0.o.below hSw).cell 0;have q5:=(K0.o.below hSw).x5.cell 0;have hl:=FX (X0.o.below hSw);have q6:=(K0.o.below hSw).x6.cell 0;go_simp;first | (with_reducible rfl) | (rw [if_neg (by first | omega | (simp;omega))])
  refine wpAnyH_take (i:=11) (v:=undef) rfl (by kernel_rfl) (by kernel_rfl) (by kernel_rfl) (fun _ _ _ h=>h) (Or.inr ⟨by kernel_rfl,rfl⟩) hHeld ?_;refine wpAnyH_take (i:=12) (v:=undef) rfl (by kernel_rfl) (by kernel_rfl) (by kernel_rfl) (fun _ _ _ h=>h) (Or.inr ⟨by kernel_rfl,rfl⟩) hHeld ?_;refine wpAnyH_take (i:=13) (v:=undef) rfl (by kernel_rfl) (by kernel_rfl) (by kernel_rfl) (fun _ _ _ h=>h) (Or.inr ⟨by kernel_rfl,rfl⟩) hHeld ?_;refine wpAnyH_take (i:=14) (v:=undef) rfl (by kernel_rfl) (by kernel_rfl) (by kernel_rfl) (fun _ _ _ h=>h) (Or.inr ⟨by kernel_rfl,rfl⟩) hHeld ?_;refine tk hHeld 15 ?_ ?_ (tk hHeld 16 ?_ ?_ ?_);iterate 2
   rotate_left
   · intro w' hSw;have hl:=gH (K0.o.below hSw).x7;go_simp;first | (with_reducible rfl) | (rw [if_neg (by first | omega | (simp;omega))])
  refine rdy1 17 (fun K hK=>?_);go_simp;go_at_call 222;refine (Ls x.r x.A x.r.ts.length x.c rfl false cx cr Ai ni ci L HNI.o HLN.o HG.o.siz _ ((T0.o.keep hHeld B0.o.size).more (by have:=B0.o.size;have:=hHeld.size;omega)) ((I0.o.keep hHeld B0.o.size).more (by have:=B0.o.size;have:=hHeld.size;omega))).mono ?_;rintro e w2 ⟨rfl,hb2⟩;have hh:=hHeld.trans (hb2.mono hHeld.size);go_simp;refine hK.o _ _ hh (fun hHeld=>?_);clear hK K hb2 hh;refine tk hHeld 18 ?_ ?_ (tk hHeld 19 ?_ ?_ ?_);iterate 2
   rotate_left
   · intro w' hSw;go_simp;first | (with_reducible rfl) | (rw [if_neg (by first | omega | (simp;omega))])
  refine wpAnyH_done (by kernel_rfl) ?_ _;go_simp;go_wp2_with fail;go_ret;exact ⟨by simp,B0.o.trans (hHeld.mono B0.o.size)⟩
theorem IA (xs:List Ru) (A:Option Addr) (n c:Nat) (hn:n=xs.length) (g5 g6 g7:Nat) (li:Int) (cx:Ctx) (cr:aN) (Ai:Option Addr) (ni ci:Nat) (L:List (Itm×aD)) (hni:ni=L.length) (hlen:ni≤1000000) (w:World) (hc:ClB w g5 g6 g7 li cx cr (.slice Ai ni ci)) (hR:jr w w.heap.size A xs) (hI:aU w w.heap.size Ai L):
  Calls Tryz.prog 220 #[.slice A n c, .func (.func 221) #[] #[.pointer (some ⟨g5,0,none⟩), .pointer (some ⟨g6,0,none⟩), .pointer (some ⟨g7,0,none⟩)]] w (Pt (fI (xs.map (·.r)) li cx cr.n (L.map (·.1))) w):=by
 have HN:=Hd hn;have HNI:=Hd hni;have HLN:=Hd hlen;have HC:=Hd hc;have HR:=Hd hR;have HI:=Hd hI;clear hc hR hI hn hni hlen;go_in;go_wp2_with fail;go_loopw [9] (fun i wr=>∃ k:Nat,k≤xs.length∧i= .int .i64 (k:Int)∧Hid (∀ j (hj:j < xs.length),j < k→(fun r=>r.li == li && bQ cx cr.n (L.map (·.1)) false r) (xs[j]'hj).r=false)∧Below w.heap.size w wr) (fun i _=>xs.length - (intOf i).toNat);case atStart=>exact ⟨0,Nat.zero_le _,rfl,Hd (fun j _ hj=>by omega),Below.refl _ _⟩
 case round=>
  obtain ⟨k,hk,rfl,hno,hb⟩:=hrel;have C1:=Hd (HC.o.below hb);have R1:=Hd (HR.o.keep hb (Nat.le_refl _));have I1:=Hd (HI.o.keep hb (Nat.le_refl _));have HB:=Hd hb;clear hb;have hn:=HN.o;by_cases hlt:k < xs.length;case pos=>
   have k1:(k:Int) < (n:Int):=(by omega);have k0:(0:Int)≤(k:Int):=(by omega);have hk9:k≤1000000:=(by have:=HR.o.few;omega);obtain ⟨ad,rfl,xJ,hcx⟩:=R1.o.at_ k hlt;have HTS:=Hd (R1.o.ts xs[k] (List.getElem_mem hlt));have HCX:=Hd hcx;clear hcx;have HFS:=Hd (show (fun r=>r.li == li && bQ cx cr.n (L.map (·.1)) false r) (xs[k]'hlt).r=true→fI (xs.map (·.r)) li cx cr.n (L.map (·.1))=some k from fun h=>sS (by simpa using hlt) (fun j hj=>by rw [List.getElem_map];exact hno.o j (by omega) hj) (by rw [List.getElem_map];exact h));have HNX:=Hd (show (fun r=>r.li == li && bQ cx cr.n (L.map (·.1)) false r) (xs[k]'hlt).r=false→∀ j (hj:j < xs.length),j < k+1→(fun r=>r.li == li && bQ cx cr.n (L.map (·.1)) false r) (xs[j]'hj).r=false from fun h j hj hjk=>by
    by_cases e:j=k
    · subst e;exact h
    · exact hno.o j hj (by omega))
   generalize xs[k]=x at *;clear hno hn;have hl:=ug (a:=ad.add (k * 8)) HCX.o;have X2:=Hd (show dF (wr.alloc (.cells (bK x.r x.sl) 90)) wr.heap.size x.r x.sl from Blk.new wr _ _);have HA:=Hd ((Below.refl wr.heap.size wr).alloc (Nat.le_refl _) (.cells (bK x.r x.sl) 90));have HB2:=Hd (HB.o.alloc HB.o.size (.cells (bK x.r x.sl) 90));have C2:=Hd (C1.o.below HA.o);have T2:=Hd (HTS.o.1.keep HA.o HB.o.size);have I2:=Hd (I1.o.keep HA.o HB.o.size);go_upto_region 4 with fail;clear hl;generalize wr.alloc (.cells (bK x.r x.sl) 90)=w2 at *;have hl:=FX X2.o;go_wp2_with fail;clear hl;refine (Iz x k g5 g6 g7 li cx cr Ai ni ci L HNI.o HLN.o w2 C2.o (T2.o.more HB2.o.size) HTS.o.2 (I2.o.more HB2.o.size)).mono ?_;rintro e w3 ⟨rfl,hb3⟩;have HB3:=Hd (aa HB2.o hb3);clear hb3;cases hm:(x.r.li == li && bQ cx cr.n (L.map (·.1)) false x.r) with
   | false=>
    have HF:=Hd (HNX.o hm);obtain ⟨q7,q8⟩:=bW hk9 (Nat.le_refl _);go_wp2_with fail;clear q7 q8;go_roundw;case rel=>exact ⟨k+1,hlt,by go_num,HF,HB3.o⟩
    case measure=>exact bq hlt _ rfl
   | true=>
    have HF:=Hd (HFS.o hm);go_wp2_with fail;go_ret;exact ⟨by rw [HF.o];rfl,HB3.o⟩
  case neg=>
   have k1:¬ (k:Int) < (n:Int):=(by omega);have HF:=Hd (show fI (xs.map (·.r)) li cx cr.n (L.map (·.1))=none from sQ (fun j hj=>by rw [List.getElem_map];exact hno.o j (by simpa using hj) (by simp at hj;omega)));go_wp2_with fail;go_ret;exact ⟨by rw [HF.o];rfl,HB.o⟩
theorem IB (xs:List Ru) (A:Option Addr) (n c:Nat) (hn:n=xs.length) (li:Int) (cx:Ctx) (cr:aN) (Ai:Option Addr) (ni ci:Nat) (L:List (Itm×aD)) (hni:ni=L.length) (hlen:ni≤1000000) (w:World) (hR:jr w w.heap.size A xs) (hI:aU w w.heap.size Ai L):
  Calls Tryz.prog 157 #[.slice A n c, .int .i64 li, .slice none 0 0,rq cx cr (.slice Ai ni ci)] w (Pt (fI (xs.map (·.r)) li cx cr.n (L.map (·.1))) w):=by
 have HN:=Hd hn;have HNI:=Hd hni;have HLN:=Hd hlen;have s1:(w.alloc (.cells #[.int .i64 li] 3)).heap.size=w.heap.size+1:=by simp
 have s2:((w.alloc (.cells #[.int .i64 li] 3)).alloc (.cells #[.slice none 0 0] 203)).heap.size=w.heap.size+1+1:=by simp
 have B0:=Hd (show Below w.heap.size w (((w.alloc (.cells #[.int .i64 li] 3)).alloc (.cells #[.slice none 0 0] 203)).alloc (.cells (aV cx cr (.slice Ai ni ci)) 54)) from (((Below.refl w.heap.size w).alloc (Nat.le_refl _) _).alloc (by rw [s1];omega) _).alloc (by rw [s2];omega) _);have K0:=Hd (show ClB (((w.alloc (.cells #[.int .i64 li] 3)).alloc (.cells #[.slice none 0 0] 203)).alloc (.cells (aV cx cr (.slice Ai ni ci)) 54)) w.heap.size (w.heap.size+1) (w.heap.size+1+1) li cx cr (.slice Ai ni ci) from ⟨((Blk.new w _ _).alloc _).alloc _,by
  have h:=(Blk.new (w.alloc (.cells #[.int .i64 li] 3)) #[.slice none 0 0] 203).alloc (.cells (aV cx cr (.slice Ai ni ci)) 54);rw [s1] at h;exact h,by
  have h:=Blk.new ((w.alloc (.cells #[.int .i64 li] 3)).alloc (.cells #[.slice none 0 0] 203)) (aV cx cr (.slice Ai ni ci)) 54;rw [s2] at h;exact h⟩)
 have R0:=Hd ((hR.keep B0.o (Nat.le_refl _)).more B0.o.size);have I0:=Hd ((hI.keep B0.o (Nat.le_refl _)).more B0.o.size);clear hR hI hn hni hlen s1 s2;go_in;go_upto_region 1 with fail;generalize ((w.alloc (.cells #[.int .i64 li] 3)).alloc (.cells #[.slice none 0 0] 203)).alloc (.cells (aV cx cr (.slice Ai ni ci)) 54)=W at *;go_wp2_with fail;refine (IA xs A n c HN.o w.heap.size (w.heap.size+1) (w.heap.size+1+1) li cx cr Ai ni ci L HNI.o HLN.o W K0.o R0.o I0.o).mono ?_;rintro e w1 ⟨rfl,hb⟩;have B1:=Hd (aa B0.o hb);clear hb;go_wp2_with fail;go_ret;exact ⟨rfl,B1.o⟩
end Go.Proofs.YtollifnnpihfdaaGreatDoor
namespace Go.Proofs.YtollifnnpihfdaaGreatDoor
open Go.RowKit
attribute [-go_sem] loadVar
attribute [local go_sem] EA EB Iu Iw Iy
attribute [local irreducible] aV fI
theorem Px (xs:List Ru) (A:Option Addr) (n c:Nat) (hn:n=xs.length) (v2:Value) (cx:Ctx) (cr:aN) (Ai:Option Addr) (ni ci:Nat) (L:List (Itm×aD)) (hni:ni=L.length) (hlen:ni≤1000000) (t:Int) (w:World) (hR:jr w w.heap.size A xs) (hI:aU w w.heap.size Ai L):
  Calls Tryz.prog 94 #[.agg #[.slice A n c,v2],rq cx cr (.slice Ai ni ci), .int .i64 t] w (Lj (kg (xs.map (·.r)) cx cr.n (L.map (·.1)) t) w):=by
 have HN:=Hd hn;have HNI:=Hd hni;have HLN:=Hd hlen;have B0:=Hd (show Below w.heap.size w ((w.alloc (.cells #[.slice A n c,v2] 41)).alloc (.cells (aV cx cr (.slice Ai ni ci)) 54)) from ((Below.refl w.heap.size w).alloc (Nat.le_refl _) _).alloc (by simp) _);have V0:=Hd ((Blk.new w #[.slice A n c,v2] 41).alloc (.cells (aV cx cr (.slice Ai ni ci)) 54));have C0:=Hd (show aR ((w.alloc (.cells #[.slice A n c,v2] 41)).alloc (.cells (aV cx cr (.slice Ai ni ci)) 54)) (w.heap.size+1) cx cr (.slice Ai ni ci) by
  have h:=Blk.new (w.alloc (.cells #[.slice A n c,v2] 41)) (aV cx cr (.slice Ai ni ci)) 54;simpa using h)
 have R0:=Hd (hR.keep B0.o (Nat.le_refl _));have I0:=Hd (hI.keep B0.o (Nat.le_refl _));clear hR hI hn hni hlen;cases ht:DI t with
 | false=>
  have HE:=Hd (show kg (xs.map (·.r)) cx cr.n (L.map (·.1)) t=false by unfold kg;rw [ht];rfl);obtain ⟨n1,n2,n3,n4,n5,n6⟩:=FW ht;clear ht;go_in;go_wp2_with fail;go_ret;exact ⟨by rw [HE.o];rfl,B0.o⟩
 | true=>
  have HTY:=Hd ht;go_in;go_upto_region 1 with fail;generalize (w.alloc (.cells #[.slice A n c,v2] 41)).alloc (.cells (aV cx cr (.slice Ai ni ci)) 54)=W at *
  skip
  have h6:=Bq ht;clear ht;have c24:=C0.o.ty;have f24:=C0.o.free 24;have C1:=Hd (show aR (W.setCell ⟨w.heap.size+1,24,none⟩ (.int .i64 t)) (w.heap.size+1) { cx with ty:=t } cr (.slice Ai ni ci) by have h:=C0.o.put 24 (.int .i64 t);rw [xx] at h;exact h);have V1:=Hd (V0.o.af (.int .i64 t) (show w.heap.size≠(⟨w.heap.size+1,24,none⟩:Addr).block by simp));have B1:=Hd (B0.o.setCell (p:=⟨w.heap.size+1,24,none⟩) (by simp) (.int .i64 t));have K1:=Hd ((Below.refl w.heap.size W).setCell (p:=⟨w.heap.size+1,24,none⟩) (by simp) (.int .i64 t));have R1:=Hd (R0.o.keep K1.o (Nat.le_refl _));have I1:=Hd (I0.o.keep K1.o (Nat.le_refl _));have hl:=gH C1.o;have v0:=V1.o.cell 0;have vv0:=V0.o.cell 0;obtain ⟨o,ho⟩:∃ o,o=fI (xs.map (·.r)) 5 { cx with ty:=t } cr.n (L.map (·.1)):=⟨_,rfl⟩;have HEN:=Hd (fun h:o=none=>sU HTY.o (ho.symm.trans h));have HKX:=Hd (fun k (h:o=some k)=>show k < xs.length by simpa using wJ (ho.symm.trans h));have HES:=Hd (fun k (h:o=some k) (hkx:k < xs.length)=>show kg (xs.map (·.r)) cx cr.n (L.map (·.1)) t=(xs[k].r.ac == 1) by rw [sV HTY.o (ho.symm.trans h)];simp [hkx]);have HOO:=Hd ho;clear ho;rcases h6 with rfl | rfl | rfl | rfl | rfl | rfl;all_goals
   go_wp2_with fail;clear hl v0 vv0 c24 f24;refine (IB xs A n c HN.o 5 _ cr Ai ni ci L HNI.o HLN.o _ (R1.o.more B1.o.size) (I1.o.more B1.o.size)).mono ?_;rintro e W2 ⟨rfl,hb⟩;have V2:=Hd (V1.o.below hb);have B2:=Hd (aa B1.o hb);have R2:=Hd ((R1.o.more B1.o.size).below hb);clear hb;have v0:=V2.o.cell 0;rw [← HOO.o];cases hf:o with
   | none=>
    have HE:=Hd (HEN.o hf);have hi:CG none=(-1:Int):=rfl;rw [hi];clear hf;go_wp2_with fail;go_ret;exact ⟨by rw [HE.o];rfl,B2.o⟩
   | some k=>
    have hkx:=HKX.o k hf;have HE:=Hd (HES.o k hf hkx);have hi:CG (some k)=(k:Int):=rfl;rw [hi];obtain ⟨ad,rfl,xJ,hcx⟩:=R2.o.at_ k hkx;obtain ⟨s0,s1,s2,s3,s4,s5,s6,s7⟩:=ma (a:=ad.add (k * 8)) hcx;clear hcx hf hi s0 s2 s3 s4 s5 s6 s7;have k1:(k:Int) < (n:Int):=(by have:=HN.o;omega);have k0:(0:Int)≤(k:Int):=(by omega);have kz:¬ (k:Int) < 0:=(by omega);generalize xs[k]=x at *;go_wp2_with fail;go_ret;exact ⟨by rw [HE.o];rfl,B2.o⟩
end Go.Proofs.YtollifnnpihfdaaGreatDoor
