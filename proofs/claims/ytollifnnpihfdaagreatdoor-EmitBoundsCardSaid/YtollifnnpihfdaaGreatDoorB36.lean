import Derived.Test.YtollifnnpihfdaaGreatDoorB27
import Derived.Test.YtollifnnpihfdaaGreatDoorB34
import Derived.Test.YtollifnnpihfdaaGreatDoorB29
import Derived.Test.YtollifnnpihfdaaGreatDoorB35
set_option maxRecDepth 100000
set_option maxHeartbeats 64000000
set_option linter.all false
namespace Go.Proofs.YtollifnnpihfdaaGreatDoor
open Go.RowKit
theorem xn (k md:Int) (s:ByteArray):Tryz.prog.built 145 [(1, .int .i64 k),(2, .int .i64 md),(6, .string s)]=some (ndC ⟨0,k,md,0,0,0,s, []⟩ (.slice none 0 0)):=by kernel_rfl
theorem xu (k md:Int):Tryz.prog.built 145 [(1, .int .i64 k),(2, .int .i64 md)]=some (ndC ⟨0,k,md,0,0,0,⟨#[]⟩, []⟩ (.slice none 0 0)):=by kernel_rfl
theorem WkA.arg {w:World} {base:Nat} {u:Wu} {ps gs:List ByteArray} (h:WkA w base u ps gs) (hz:u.z=9∨u.z=19):∃ (ad:Addr) (s:ByteArray),u.G=some ad∧ad.block < base∧w.cell? ad=some (.string s)∧s.size≤64∧(0:Int) < (u.ng:Int):=by
 have h1:=(gL h.ck).2.1;have h2:(dE u.z).least=1:=by
  rcases hz with hz | hz <;> rw [hz]
  · decide+kernel
  · decide+kernel
 rw [h2] at h1;have h3:0 < gs.length:=h1;obtain ⟨ad,e,hb,hc⟩:=h.G 0 h3;exact ⟨ad,gs[0]'h3,e,hb,qg ad ▸ hc,h.hg _ (List.getElem_mem h3),by rw [h.ng];omega⟩
theorem BH (base gw m:Nat) (u:Wu) (v:Wv) (ds:List Dm) (ms:List Mt) (fs:List Fo) (ps gs:List ByteArray) (hn:0 < fs.length) (hm:0 < m) (w:World) (ha:WkA w base u ps gs) (h:WkS w base gw u v ds ms fs m):
  Calls Tryz.prog 145 #[.pointer (some ⟨gw,0,none⟩)] w (WkP w base gw u fs m):=by
 have HW:=Hd h;have H0:=Hd hn;obtain ⟨gF,hF,_,_,hnF⟩:=aW h.O.ff hn;have HF:=Hd hF;have k1:(0:Int) < (v.nF:Int):=by rw [hnF];omega
 have k1a:0 < v.nF:=by omega
 have k1b:v.nF≠0:=by omega
 have k1c:¬ v.nF≤0:=by omega
 have HNM:=Hd (h.O.fk _ (List.getElem_mem H0.o));obtain ⟨a,ha⟩:∃ a,a=fs[0]'H0.o:=⟨_,rfl⟩;have HE0:=Hd ha.symm;have HNA:=Hd (show a.nm.size≤12∧a.pa.size≤640 by rw [ha];exact HNM.o);clear ha;have x26:w.cell? ⟨gw,26,none⟩=some (.slice (some ⟨gF,0,none⟩) v.nF v.cF):=by rw [← HF.o];exact h.X.cell 26
 have y00:w.cell? ⟨gF,0,none⟩=some (.int .i64 a.dd):=by have h9:=h.fnd HF.o H0.o 0 (by omega);rw [HE0.o] at h9;exact h9
 have y01:w.cell? ⟨gF,1,none⟩=some (.int .i64 a.di):=by have h9:=h.fnd HF.o H0.o 1 (by omega);rw [HE0.o] at h9;exact h9
 have y02:w.cell? ⟨gF,2,none⟩=some (.string a.nm):=by have h9:=h.fnd HF.o H0.o 2 (by omega);rw [HE0.o] at h9;exact h9
 have y03:w.cell? ⟨gF,3,none⟩=some (.int .i64 a.fd):=by have h9:=h.fnd HF.o H0.o 3 (by omega);rw [HE0.o] at h9;exact h9
 have y04:w.cell? ⟨gF,4,none⟩=some (.int .i64 a.fi):=by have h9:=h.fnd HF.o H0.o 4 (by omega);rw [HE0.o] at h9;exact h9
 have y05:w.cell? ⟨gF,5,none⟩=some (.bool a.ex):=by have h9:=h.fnd HF.o H0.o 5 (by omega);rw [HE0.o] at h9;exact h9
 have y06:w.cell? ⟨gF,6,none⟩=some (.bool a.sl):=by have h9:=h.fnd HF.o H0.o 6 (by omega);rw [HE0.o] at h9;exact h9
 have y07:w.cell? ⟨gF,7,none⟩=some (.string a.pa):=by have h9:=h.fnd HF.o H0.o 7 (by omega);rw [HE0.o] at h9;exact h9
 have S0:=Hd (RdW.new w 223 (foC a));clear h hn hF hnF HNM;go_in;go_upto_region 2 with fail;clear x26 k1 k1a k1b k1c y00 y01 y02 y03 y04 y05 y06 y07;generalize w.alloc (.cells (foC a) 223)=w0 at *;have HM:=Hd hm;have HA:=Hd ha;clear hm ha;have b5:w0.cell? ⟨w.heap.size,5,none⟩=some (.bool a.ex):=S0.o.x.cell 5;cases hc:a.ex;case true=>
  rw [hc] at b5;go_wp2_with fail;go_ret;exact ⟨_,v,ds,ms,rfl,HW.o.below S0.o.b,S0.o.b.mono HW.o.big⟩
 rw [hc] at b5;clear hc;go_upto_region 4 with fail;clear b5;have b6:w0.cell? ⟨w.heap.size,6,none⟩=some (.bool a.sl):=S0.o.x.cell 6;have x19:w0.cell? ⟨gw,19,none⟩=some (.int .i64 u.z):=(HW.o.below S0.o.b).X.cell 19;go_cut [13] (fun bv wx=>(∃ bb:Bool,bv= .bool bb)∧w0=wx);case first=>
  cases hsl:a.sl;case true=>
   rw [hsl] at b6;go_wp2_with fail;go_meet;exact ⟨⟨_,rfl⟩,rfl⟩
  case false=>
   rw [hsl] at b6;go_wp2_with fail;go_meet;exact ⟨⟨_,rfl⟩,rfl⟩
 case rest=>
 obtain ⟨⟨bb,rfl⟩,rfl⟩:=hcut;cases bb;case true=>
  go_wp2_with fail;go_ret;exact ⟨_,v,ds,ms,rfl,HW.o.below S0.o.b,S0.o.b.mono HW.o.big⟩
 have b0:w0.cell? ⟨w.heap.size,0,none⟩=some (.int .i64 a.dd):=S0.o.x.cell 0;have b1:w0.cell? ⟨w.heap.size,1,none⟩=some (.int .i64 a.di):=S0.o.x.cell 1;go_wp2_with fail;clear b0 b1 b6 x19;refine (wX base gw m u v ds ms fs a.dd a.di 2 w0 (HW.o.below S0.o.b)).mono ?_;rintro e w3 ⟨⟨bm,rfl⟩,hb⟩;replace S0:=Hd (S0.o.below hb);clear hb;cases bm;case false=>
  go_wp2_with fail;go_ret;exact ⟨_,v,ds,ms,rfl,HW.o.below S0.o.b,S0.o.b.mono HW.o.big⟩
 have x19:w3.cell? ⟨gw,19,none⟩=some (.int .i64 u.z):=(HW.o.below S0.o.b).X.cell 19;by_cases hz:u.z=9;case pos=>
  obtain ⟨ad,s,eG,hab,hcs,hss,g1⟩:=HA.o.arg (.inl hz);have HSS:=Hd hss;have hcy:w3.cell? ad=some (.string s):=(S0.o.b.cell (by have:=HW.o.big;omega)).trans hcs;have x25:w3.cell? ⟨gw,25,none⟩=some (.slice (some ad) u.ng u.cg):=by rw [← eG];exact (HW.o.below S0.o.b).X.cell 25
  clear hcs eG hss hab;obtain ⟨p1,p2⟩:=bI hz;clear hz;go_wp2_with ((with_reducible refine lF ?_ 145 _ ?_ (ndC ⟨0,3,511,0,0,0,s, []⟩ (.slice none 0 0)) ?_ ?_);rfl;rfl;(go_simp;exact xn 3 511 s));clear hcy x25 g1 p1 p2 x19;refine (rA base gw m u v ds ms fs 0 0 rfl H0.o HM.o ⟨0,3,511,0,0,0,s, []⟩ none 0 0 (by have:=HSS.o;show s.size≤maxLen;unfold maxLen;omega) w3 (HW.o.below S0.o.b)).mono ?_;rintro e w8 ⟨kk,v7,d7,rfl,hw7,hb7,_,_,_⟩;have W7:=Hd hw7;have B7:=Hd ((S0.o.b.mono HW.o.big).trans hb7);clear hw7 hb7;go_wp2_with fail;go_ret;exact ⟨kk,v7,d7,ms,rfl,W7.o,B7.o⟩
 obtain ⟨p1,p2⟩:=aM hz;clear hz;have x20:w3.cell? ⟨gw,20,none⟩=some (.int .i64 (u.a 0)):=(HW.o.below S0.o.b).X.cell 20;go_wp2_with ((with_reducible refine lF ?_ 145 _ ?_ (ndC ⟨0,2,u.a 0,0,0,0,⟨#[]⟩, []⟩ (.slice none 0 0)) ?_ ?_);rfl;rfl;(go_simp;exact xu 2 (u.a 0)));clear p1 p2 x19 x20;refine (rA base gw m u v ds ms fs 0 0 rfl H0.o HM.o ⟨0,2,u.a 0,0,0,0,⟨#[]⟩, []⟩ none 0 0 (by show (0:Nat)≤maxLen;exact Nat.zero_le _) w3 (HW.o.below S0.o.b)).mono ?_;rintro e w8 ⟨kk,v7,d7,rfl,hw7,hb7,_,_,_⟩;have W7:=Hd hw7;have B7:=Hd ((S0.o.b.mono HW.o.big).trans hb7);clear hw7 hb7;go_wp2_with fail;go_ret;exact ⟨kk,v7,d7,ms,rfl,W7.o,B7.o⟩
structure Wa where
 kd:Int
 dd:Int
 di:Int
 nm:ByteArray
 fd:Int
 fi:Int
section
variable {w wr w' :World} {A Am:Option Addr} {n c nm cm:Nat} {ds:List Dm} {ms:List Mt}
end
def Ld:Prop:=∀ (d i:Int) (p:ByteArray),p.size≤100000→∀ (fw:Bool) (ds:List Dm) (A:Option Addr) (n c:Nat),n=ds.length→∀ (ms:List Mt) (Am:Option Addr) (nm cm:Nat),nm=ms.length→nm≤1000→SOk (ds.map Dm.dv) ms→∀ (w:World),bZ w w.heap.size A ds→AtE EMt w w.heap.size Am ms→
 Calls Tryz.prog 135 #[.agg #[slV A n c,slV Am nm cm],flV d i, .string p, .bool fw] w (FoP w)
structure Sy where
 A:Option Addr
 n:Nat
 c:Nat
 Am:Option Addr
 nm:Nat
 cm:Nat
 ta:Int
 tb:Int
 At:Option Addr
 nt:Nat
 ct:Nat
abbrev syC (s:Sy):Array Value:=#[.slice s.A s.n s.c, .slice s.Am s.nm s.cm, .int .i64 s.ta, .int .i64 s.tb, .slice s.At s.nt s.ct]
abbrev syZ:Array Value:=#[.slice none 0 0, .slice none 0 0, .int .i64 0, .int .i64 0, .slice none 0 0]
theorem gU (s:Sy):(Tryz.prog.info? 36).map (·.size)=some (syC s).size:=by show _=some 5;kernel_rfl
theorem fq (s:Sy):(syC s).all (·.oneCell')=true:=by simp [Value.oneCell']
structure eY (w:World) (base:Nat) (s:Sy) (ds:List Dm) (ms:List Mt) (ps:List Pm):Prop where
 fo:aC w base (.slice s.A s.n s.c) ds
 mo:ax EMt w base (.slice s.Am s.nm s.cm) ms
 so:SOk (ds.map Dm.dv) ms
 tb:aJ w base (.slice s.At s.nt s.ct) ps
def SyO (w:World) (base:Nat) (s:Sy):Prop:=∃ ds ms ps,eY w base s ds ms ps
section
variable {w w' :World} {base:Nat} {s:Sy} {ds:List Dm} {ms:List Mt} {ps:List Pm}
theorem eY.below (h:eY w base s ds ms ps) (hb:Below w.heap.size w w'):eY w' base s ds ms ps:=⟨h.fo.below hb,h.mo.below hb,h.so,h.tb.below hb⟩
theorem SyO.below (h:SyO w base s) (hb:Below w.heap.size w w'):SyO w' base s:=by
 obtain ⟨ds,ms,ps,h⟩:=h;exact ⟨ds,ms,ps,h.below hb⟩
theorem eY.low (h:eY w base s ds ms ps) {b:Nat} (hb:b≤base):eY w b s ds ms ps:=⟨h.fo.low hb,h.mo.low hb,h.so,h.tb.low hb⟩
theorem SyO.low (h:SyO w base s) {b:Nat} (hb:b≤base):SyO w b s:=by
 obtain ⟨ds,ms,ps,h⟩:=h;exact ⟨ds,ms,ps,h.low hb⟩
theorem eY.few (h:eY w base s ds ms ps):s.nm=ms.length∧s.nm≤2∧s.n=ds.length:=by
 have h1:=(dz h.mo).1;have h2:=h.so.2.few h.so.1.2.1;exact ⟨h1,by omega,h.fo.uy.2⟩
theorem eY.files (h:eY w base s ds ms ps):bZ w w.heap.size s.A ds:=h.fo.uy.1
theorem eY.aR (h:eY w base s ds ms ps):AtE EMt w w.heap.size s.Am ms:=aU h.mo
theorem eY.nt (h:eY w base s ds ms ps):s.nt=ps.length∧s.nt≤16:=by
 have h1:=h.tb.at'.1;have h2:=h.tb.few;exact ⟨h1,by omega⟩
theorem eY.far (h:eY w base s ds ms ps) {k:Nat} {t:TypeId} {cs:Array Value} (hg:w.grownBy w' (some k)) (hk:Blk w k t cs) (ht:t ∉ pR):eY w' base s ds ms ps:=
 ⟨h.fo.lu hk hg (iX (by decide) ht) (iX (by decide) ht) (iX (by decide) ht),h.mo.far hg (fun q e r=>by injection r with r;subst r;exact ay h.mo hk (iX (by decide) ht) e),h.so,h.tb.far hg (fun q e=>by injection e with e;subst e;exact h.tb.blk hk (iX (by decide) ht) (iX (by decide) ht))⟩
theorem SyO.far (h:SyO w base s) {k:Nat} {t:TypeId} {cs:Array Value} (hg:w.grownBy w' (some k)) (hk:Blk w k t cs) (ht:t ∉ pR):SyO w' base s:=by
 obtain ⟨ds,ms,ps,h⟩:=h;exact ⟨ds,ms,ps,h.far hg hk ht⟩
theorem SyO.src (h:SyO w base s) {g:Nat} (hl:g < base) (hg:w.grownBy w' (some g)):SyO w' base s:=by
 obtain ⟨ds,ms,ps,h⟩:=h;exact ⟨ds,ms,ps,h.fo.far hg (fun q e=>by injection e with e;subst e;exact h.fo.old hl),h.mo.far hg (fun q e r=>by injection r with r;have:=h.mo.ge q e;omega),h.so,h.tb.only hg hl⟩
end
theorem BL {fn:Func} {i:Nat} (h:fn.results=#[.cell i 36]) (tmps:Array Value) (w:World) (g:Nat) (s:Sy) (hp:tmps.getD i undef= .pointer (some ⟨g,0,none⟩)) (hg:Blk w g 36 (syC s)):
  (results fn tmps).run Tryz.prog w= .ok (.agg (syC s)) w:=
 results_cell_row h tmps w g _ (syC s) (0,0) _ hp hg Tryz.underlying36 rfl (gU s)
theorem sN (s:Sy):Tryz.prog.built 36 [(0, .agg #[.slice s.A s.n s.c, .slice s.Am s.nm s.cm]),(1, .agg #[.int .i64 s.ta, .int .i64 s.tb, .slice s.At s.nt s.ct])]=some (syC s):=by
 kernel_rfl
def CyP (w:World) (e:Ending) (w' :World):Prop:=∃ s',e= .returned (.agg (syC s'))∧SyO w' w.heap.size s' ∧Below w.heap.size w w'
theorem qh (s:Sy) (w:World) (b:Nat) (h:SyO w b s):
   Calls Tryz.prog 82 #[.agg (syC s)] w (CyP w):=by
 obtain ⟨ds,ms,ps,hh⟩:=h;have HO:=Hd hh;have HF:=Hd hh.few;have HT:=Hd hh.nt;clear hh;have hb0:=aT w (syC s) syZ 36 36;have h2:=Blk.new (w.alloc (.cells (syC s) 36)) syZ 36;simp only [World.size_alloc] at h2;have S0:=Hd (show Below w.heap.size w ((w.alloc (.cells (syC s) 36)).alloc (.cells syZ 36))∧Blk ((w.alloc (.cells (syC s) 36)).alloc (.cells syZ 36)) w.heap.size 36 (syC s) from ⟨hb0,(Blk.new w (syC s) 36).alloc _⟩);have R0:=Hd h2;clear hb0 h2;go_in;go_upto_region 1 with fail;generalize (w.alloc (.cells (syC s) 36)).alloc (.cells syZ 36)=w0 at *;have S1:=Hd (show Below w.heap.size w w0.drew∧Blk w0.drew w.heap.size 36 (syC s) from ⟨aa S0.o.1 (Below.refl w0.heap.size w0).drew,S0.o.2.below (Below.refl w0.heap.size w0).drew⟩);have R1:=Hd (R0.o.below (Below.refl w0.heap.size w0).drew);clear S0 R0;refine wp_region_held_drew (S:=(fun W=>Below w.heap.size w W∧Blk W w.heap.size 36 (syC s))) (by kernel_rfl) S1.o (fun hHeld=>?_);generalize w0.drew=w1 at *;refine tk hHeld 0 ?_ ?_ (tk hHeld 1 ?_ ?_ (tk hHeld 3 ?_ ?_ (tk hHeld 4 ?_ ?_ ?_)));iterate 4
   rotate_left
   · intro W hSw;have x0:=hSw.2.cell 0;have x1:=hSw.2.cell 1;have x2:=hSw.2.cell 2;have x3:=hSw.2.cell 3;have x4:=hSw.2.cell 4;go_simp;try (with_reducible rfl)
 refine rdy1 2 (fun K hK=>?_);go_simp;go_at_call 107;refine (qR ds s.A s.n s.c HF.o.2.2 ms s.Am s.nm s.cm HF.o.1 (by have:=HF.o.2.1;omega) w1 (HO.o.below S1.o.1).files (HO.o.below S1.o.1).aR).mono ?_;rintro e w2 ⟨A2,n2,c2,Am2,nm2,cm2,d2,rfl,hf,he,hm,hb⟩;have S2:=Hd (show Below w.heap.size w w2∧Blk w2 w.heap.size 36 (syC s) from ⟨aa S1.o.1 hb,S1.o.2.below hb⟩);have R2:=Hd (R1.o.below hb);have F2:=Hd (hf.low S1.o.1.size);have M2:=Hd (hm.low S1.o.1.size);have E2:=Hd he;clear hf hm he hb S1 R1;go_simp;refine hK.o _ _ S2.o (fun hHeld=>?_);clear hK K;refine rdy1 5 (fun K hK=>?_);go_simp;go_at_call 133;refine (su s.ta s.tb ps s.At s.nt s.ct HT.o.1 HT.o.2 (fun x hx=>(HO.o.tb.op x hx).2) w2 ((HO.o.below S2.o.1).tb.at'.2)).mono ?_;rintro e w3 ⟨At3,nt3,ct3,p3,rfl,hp,hb,_⟩;have S3:=Hd (show Below w.heap.size w w3∧Blk w3 w.heap.size 36 (syC s) from ⟨aa S2.o.1 hb,S2.o.2.below hb⟩);have R3:=Hd (R2.o.below hb);have O3:=Hd (show eY w3 w.heap.size ⟨A2,n2,c2,Am2,nm2,cm2,s.ta,s.tb,At3,nt3,ct3⟩ d2 ms p3 from ⟨F2.o.below hb,M2.o.below hb,by rw [E2.o];exact HO.o.so,hp.low S2.o.1.size⟩);clear hp hb S2 R2 F2 M2 E2;go_simp;refine hK.o _ _ S3.o (fun hHeld=>?_);clear hK K;refine rdy1 6 (fun K hK=>?_);refine fT (by rfl) 36 _ (by rfl) (syC (⟨A2,n2,c2,Am2,nm2,cm2,s.ta,s.tb,At3,nt3,ct3⟩:Sy)) ?_ ?_
 · go_simp;exact sN (⟨A2,n2,c2,Am2,nm2,cm2,s.ta,s.tb,At3,nt3,ct3⟩:Sy)
 generalize (⟨A2,n2,c2,Am2,nm2,cm2,s.ta,s.tb,At3,nt3,ct3⟩:Sy)=s3 at *;refine hK.o _ _ S3.o (fun hHeld=>?_);clear hK K;refine rdy1 7 (fun K hK=>?_);refine ag (by rfl) 36 (.tmp 2) (.tmp 9) (by rfl) R3.o (syC s3) ?_ ?_ (gU _) rfl (fq _) ?_
 · go_simp
 · go_simp
 have S4:=Hd (show Below w.heap.size w (w3.setRow (w.heap.size+1) (syC s3))∧Blk (w3.setRow (w.heap.size+1) (syC s3)) w.heap.size 36 (syC s) from ⟨ai S3.o.1 (show w.heap.size≤w.heap.size+1 by omega) (syC s3),S3.o.2.ah _ (by omega)⟩);have O4:=Hd (O3.o.far (aA w3 (w.heap.size+1) (syC s3)) R3.o (by decide));have R4:=Hd (R3.o.row (syC s3));clear R3 O3 S3;refine hK.o _ _ S4.o (fun hHeld=>?_);clear hK K;generalize w3.setRow (w.heap.size+1) (syC s3)=w4 at *;refine wpAnyH_done (by kernel_rfl) ?_ _;go_wp2_with fail;refine bodyPost_ret (BL (fn:=Tryz.f82) rfl _ _ (w.heap.size+1) s3 rfl R4.o) rfl ?_;exact ⟨s3,rfl,⟨_,_,_,O4.o⟩,S4.o.1⟩
def xG (d i:Int):Pm:=⟨⟨1,0,0,0,0,0,4294967295,4294967295,d,i,⟨#[105,110,105,116]⟩,⟨#[47,105,110,105,116]⟩,true⟩, [],none,0⟩
def NwP (d i:Int) (w:World) (e:Ending) (w' :World):Prop:=∃ (A:Option Addr) (c:Nat),e= .returned (.agg (tbC 2 1 (.slice A 1 c)))∧ax EPc w' w.heap.size (.slice A 1 c) [xG d i]∧Below w.heap.size w w'
theorem Ll (d i:Int) (w:World):Calls Tryz.prog 80 #[flV d i] w (NwP d i w):=by
 have hb0:=aT w #[.int .i64 d, .int .i64 i] (tbC 0 0 (.slice none 0 0)) 44 34;have h2:=Blk.new (w.alloc (.cells #[.int .i64 d, .int .i64 i] 44)) (tbC 0 0 (.slice none 0 0)) 34;simp only [World.size_alloc] at h2;have B0:=Hd hb0;have U0:=Hd ((Blk.new w #[.int .i64 d, .int .i64 i] 44).alloc (.cells (tbC 0 0 (.slice none 0 0)) 34));have R0:=Hd h2;have HW:=Hd (show ((w.alloc (.cells #[.int .i64 d, .int .i64 i] 44)).alloc (.cells (tbC 0 0 (.slice none 0 0)) 34)).heap.size=w.heap.size+1+1 by simp);clear hb0 h2;go_in;go_upto_region 1 with fail;generalize (w.alloc (.cells #[.int .i64 d, .int .i64 i] 44)).alloc (.cells (tbC 0 0 (.slice none 0 0)) 34)=w0 at *;have u0:=U0.o.cell 0;have u1:=U0.o.cell 1;have R1:=Hd (R0.o.alloc (.cells #[.int .i64 1, .int .i64 0, .int .i64 0, .int .i64 0, .int .i64 0, .int .i64 0, .int .i64 4294967295, .int .i64 4294967295, .int .i64 d, .int .i64 i, .string ⟨#[105,110,105,116]⟩, .string ⟨#[47,105,110,105,116]⟩, .slice none 0 0, .bool true] 47));have B1:=Hd (B0.o.alloc B0.o.size (.cells #[.int .i64 1, .int .i64 0, .int .i64 0, .int .i64 0, .int .i64 0, .int .i64 0, .int .i64 4294967295, .int .i64 4294967295, .int .i64 d, .int .i64 i, .string ⟨#[105,110,105,116]⟩, .string ⟨#[47,105,110,105,116]⟩, .slice none 0 0, .bool true] 47));have O1:=Hd (vB EPc w0 w0.heap.size #[.int .i64 1, .int .i64 0, .int .i64 0, .int .i64 0, .int .i64 0, .int .i64 0, .int .i64 4294967295, .int .i64 4294967295, .int .i64 d, .int .i64 i, .string ⟨#[105,110,105,116]⟩, .string ⟨#[47,105,110,105,116]⟩, .slice none 0 0, .bool true] (xG d i) rfl (Nat.le_refl _));go_wp2_with ((with_reducible refine ae ?_ 34 (.tmp 2) (.tmp 6) ?_ R1.o (tbC 2 1 (.slice (some ⟨w0.heap.size,0,none⟩) 1 1)) ?_ ?_ ?_ ?_ ?_ ?_);(iterate 4 rfl);(exact aK _ _ _);rfl;(exact aO _ _ _ _ _));refine bodyPost_ret (vX (fn:=Tryz.f80) rfl _ _ (w.heap.size+1) 2 1 (.slice (some ⟨w0.heap.size,0,none⟩) 1 1) rfl (Blk.row R1.o _)) rfl ?_;have gr:=aA (w0.alloc (.cells #[.int .i64 1, .int .i64 0, .int .i64 0, .int .i64 0, .int .i64 0, .int .i64 0, .int .i64 4294967295, .int .i64 4294967295, .int .i64 d, .int .i64 i, .string ⟨#[105,110,105,116]⟩, .string ⟨#[47,105,110,105,116]⟩, .slice none 0 0, .bool true] 47)) (w.heap.size+1) (tbC 2 1 (.slice (some ⟨w0.heap.size,0,none⟩) 1 1));exact ⟨_,1,rfl,(O1.o.far gr (fun q e r=>by injection r with r;have:=O1.o.ge q e;have:=HW.o;omega)).low (by have:=HW.o;omega),ai B1.o (by omega) _⟩
theorem DT {fn:Func} {i j:Nat} (h:fn.results=#[.cell i 36, .tmp j]) (tmps:Array Value) (w:World) (g:Nat) (s:Sy) (hp:tmps.getD i undef= .pointer (some ⟨g,0,none⟩)) (hg:Blk w g 36 (syC s)):
  (results fn tmps).run Tryz.prog w= .ok (.tuple #[.agg (syC s),tmps.getD j undef]) w:=by
 have hp' :tmps[i]?.getD undef= .pointer (some ⟨g,0,none⟩):=by simpa using hp
 simp [results,h,hp',asAddr,run_loadVar_row w g 36 36 (syC s) (0,0) _ hg Tryz.underlying36 rfl (gU s)]
def NwY (w:World) (e:Ending) (w' :World):Prop:=∃ s',e= .returned (.tuple #[.agg (syC s'), .int .i64 0])∧SyO w' w.heap.size s' ∧Below w.heap.size w w'
theorem aJ.init {w:World} {base:Nat} {A:Option Addr} {c:Nat} (d i:Int) (h:ax EPc w base (.slice A 1 c) [xG d i]):aJ w base (.slice A 1 c) [xG d i]:=
 ⟨h,by show 1≤16;omega,fun x hx=>by rw [List.mem_singleton.1 hx];exact ⟨ax.nil _ _,by show (0:Nat)≤8;omega,by show (4:Nat)≤640;omega,by show (5:Nat)≤640;omega⟩⟩
theorem Lm (n:Nat) (h1:1≤n) (h3:n≤3) (w:World):
   Calls Tryz.prog 37 #[.int .i64 (n:Int)] w (NwY w):=by
 have S0:=Hd (show Below w.heap.size w (w.alloc (.cells syZ 36)) from (Below.refl _ _).alloc (Nat.le_refl _) _);have R0:=Hd (Blk.new w syZ 36);go_in;go_wp2_with fail;generalize w.alloc (.cells syZ 36)=w0 at *;refine (KC n h1 h3 w0).mono ?_;rintro e w1 ⟨v,ds,rfl,hf,he,hb⟩;have S1:=Hd (aa S0.o hb);have R1:=Hd (R0.o.below hb);have F1:=Hd (hf.low S0.o.size);have E1:=Hd he;clear hf he hb S0 R0;obtain ⟨A,c,rfl,_⟩:=F1.o.own.at;go_upto_region 4 with fail;have hb:=(Below.refl w1.heap.size w1).alloc (Nat.le_refl _) (.cells #[.slice A ds.length c] 28);have S2:=Hd (aa S1.o hb);have R2:=Hd (R1.o.below hb);have F2:=Hd (F1.o.below hb);have X2:=Hd (Blk.new w1 #[.slice A ds.length c] 28);generalize w1.heap.size=gf at *;clear hb S1 R1 F1;generalize w1.alloc (.cells #[.slice A ds.length c] 28)=w2 at *;have S3:=Hd (show Below w.heap.size w w2.drew∧Blk w2.drew gf 28 #[.slice A ds.length c] from ⟨aa S2.o (Below.refl w2.heap.size w2).drew,X2.o.below (Below.refl w2.heap.size w2).drew⟩);have R3:=Hd (R2.o.below (Below.refl w2.heap.size w2).drew);have F3:=Hd (F2.o.below (Below.refl w2.heap.size w2).drew);have HG:=Hd (show w.heap.size≤w2.heap.size from S2.o.size);clear S2 R2 F2 X2;refine wp_region_held_drew (S:=(fun W=>Below w.heap.size w W∧Blk W gf 28 #[.slice A ds.length c])) (by kernel_rfl) S3.o (fun hHeld=>?_);generalize w2.drew=w3 at *;refine tk hHeld 0 ?_ ?_ (tk hHeld 1 ?_ ?_ (tk hHeld 2 ?_ ?_ ?_));iterate 3
   rotate_left
   · intro W hSw;have x0:=hSw.2.cell 0;go_simp;try (with_reducible rfl)
 refine rdy1 3 (fun K hK=>?_);go_simp;go_at_call 80;refine (Ll 0 1 w3).mono ?_;rintro e w4 ⟨At,ct,rfl,hp,hb⟩;have hsz:=S3.o.1.size;have S4:=Hd (show Below w.heap.size w w4∧Blk w4 gf 28 #[.slice A ds.length c] from ⟨aa S3.o.1 hb,S3.o.2.below hb⟩);have R4:=Hd (R3.o.below hb);have O4:=Hd (show eY w4 w.heap.size ⟨A,ds.length,c,none,0,0,2,1,At,1,ct⟩ ds [] [xG 0 1] from ⟨F3.o.below hb,ax.nil _ _,by rw [E1.o];exact ⟨FOk.new h1 h3, .nil⟩,aJ.init 0 1 (hp.low hsz)⟩);clear hp hb S3 R3 F3 hsz;go_simp;refine hK.o _ _ S4.o (fun hHeld=>?_);clear hK K;refine rdy1 4 (fun K hK=>?_);refine fT (by rfl) 36 _ (by rfl) (syC (⟨A,ds.length,c,none,0,0,2,1,At,1,ct⟩:Sy)) ?_ ?_
 · go_simp;exact sN (⟨A,ds.length,c,none,0,0,2,1,At,1,ct⟩:Sy)
 generalize (⟨A,ds.length,c,none,0,0,2,1,At,1,ct⟩:Sy)=s3 at *;refine hK.o _ _ S4.o (fun hHeld=>?_);clear hK K;refine rdy1 5 (fun K hK=>?_);refine ag (by rfl) 36 (.tmp 2) (.tmp 19) (by rfl) R4.o (syC s3) ?_ ?_ (gU _) rfl (fq _) ?_
 · go_simp
 · go_simp
 have hne:gf≠w.heap.size:=fun e=>by subst e;have h5:=R4.o;have h6:=S4.o.2;unfold Blk at h5 h6;rw [h5] at h6;injection h6 with h6;injection h6 with _ h6;exact absurd h6 (by decide)
 have S5:=Hd (show Below w.heap.size w (w4.setRow w.heap.size (syC s3))∧Blk (w4.setRow w.heap.size (syC s3)) gf 28 #[.slice A ds.length c] from ⟨ai S4.o.1 (Nat.le_refl _) (syC s3),S4.o.2.ah _ hne⟩);have O5:=Hd (O4.o.far (aA w4 w.heap.size (syC s3)) R4.o (by decide));have R5:=Hd (R4.o.row (syC s3));clear R4 O4 S4 hne;refine hK.o _ _ S5.o (fun hHeld=>?_);clear hK K;generalize w4.setRow w.heap.size (syC s3)=w5 at *;refine tk hHeld 6 ?_ ?_ ?_;rotate_left
 · intro W hSw;go_simp;try (with_reducible rfl)
 refine wpAnyH_done (by kernel_rfl) ?_ _;go_wp2_with fail;refine bodyPost_ret (DT (fn:=Tryz.f37) rfl _ _ w.heap.size s3 rfl R5.o) rfl ?_;exact ⟨s3,rfl,⟨_,_,_,O5.o⟩,S5.o.1⟩
theorem H6 {w:World} {base:Nat} {e:TypeId} {size:Nat} {v:Value} {k:Nat} {xs:List Value} (h:w.ownsRow base e size v k xs) {q:Nat} {t:TypeId} {cs:Array Value} (hk:Blk w q t cs) (hne:e≠t):v.ownBlock≠some q:=fun e2=>by
 rcases h.2 with ⟨rfl,_⟩ | ⟨g',cap,cur,rfl,_,hgg,_⟩
 · cases e2
 · have e3:g' =q:=Option.some.inj e2;subst e3;rw [show w.heap[g']? =_ from hk] at hgg;injection hgg with hgg;injection hgg with _ h2;exact hne h2.symm
theorem oD {w w' :World} {base:Nat} {e:TypeId} {size:Nat} {v:Value} {k:Nat} {xs:List Value} (h:w.ownsRow base e size v k xs) {q:Nat} {t:TypeId} {cs:Array Value} (hk:Blk w q t cs) (hne:e≠t) (hg:w.grownBy w' (some q)):w'.ownsRow base e size v k xs:=
 World.ownsRow.kept h hg (by
  cases hv:v.ownBlock with
  | none=>exact .inl rfl
  | some k=>right;intro e2;exact H6 h hk hne (by rw [hv];exact e2))
theorem ax.lit {α:Type} (E:El α) (w:World) (base:Nat) (cs:Array Value) (x:α) (h:cs.toList=E.C x) (hb:base≤w.heap.size):ax E (w.alloc (.cells cs E.e)) base (.slice (some ⟨w.heap.size,0,none⟩) 1 1) [x]:=by
 have h1:=World.ownsRow_lit (base:=base) (e:=E.e) (size:=E.sz) w cs 1 hb (by unfold maxLen;omega) (by rw [← Array.length_toList,h,E.len];omega);have e: [x].flatMap E.C=cs.toList:=by rw [h];simp
 unfold ax;rw [e];exact h1
attribute [-go_sem] loadVar
attribute [local go_sem] DV DW Ii Ij Ik Na
end Go.Proofs.YtollifnnpihfdaaGreatDoor
namespace Go.Proofs.YtollifnnpihfdaaGreatDoor
open Go.RowKit
theorem qE (l:List UInt8):Lib.hasSuffix l [47]=(l.getLast? == some 47):=by
 unfold Lib.hasSuffix;rcases List.eq_nil_or_concat l with h | ⟨r,a,h⟩
 · subst h;rfl
 · rw [h,List.concat_eq_append,List.getLast?_append];by_cases ha:a=47
   · subst ha;have: [47] <:+r ++ [47]:=List.suffix_append _ _;simp [this]
   · have hn:¬ [47] <:+r ++ [a]:=fun hs=>by
      obtain ⟨q,e⟩:=hs;have:=congrArg List.getLast? e;simp at this;exact ha this.symm
     have h1:List.isSuffixOf [47] (r ++ [a])=false:=by
      cases hq:List.isSuffixOf [47] (r ++ [a]) with
      | false=>rfl
      | true=>exact absurd (List.isSuffixOf_iff_suffix.1 hq) hn
     rw [h1];simp;intro h2;exact ha h2
theorem yu (d n:ByteArray):eX d n=if Lib.hasSuffix d.data.toList [47]=true then d ++ n else d ++ ⟨#[47]⟩ ++ n:=by
 unfold eX;rw [qE];by_cases h:0 < d.size
 · rw [decide_eq_true h,Bool.true_and]
 · have hd:d.data.toList= []:=List.eq_nil_of_length_eq_zero (by rw [Array.length_toList];show d.size=0;omega);rw [decide_eq_false h,hd];rfl
theorem IY (d nm:ByteArray) (hd:d.size≤100000000) (hn:nm.size≤2000) (w:World):
  Calls Tryz.prog 99 #[.string d, .string nm] w fun e w' =>e= .returned (.string (eX d nm))∧w=w' :=by
 have HJ:=Hd (yu d nm);have hs1:(d.size:Int)+(nm.size:Int)≤100002000:=by omega
 have hs2:d.size+nm.size≤100002000:=by omega
 have HS:=Hd (Tryz.strings_HasSuffix d ⟨#[47]⟩ w (by omega));go_in;go_wp2_with fail;refine HS.o.mono ?_;rintro e w1 ⟨rfl,rfl⟩;cases hb:Lib.hasSuffix d.data.toList [47] with
 | true=>
  have HR:=Hd (HJ.o.trans (if_pos hb));clear HJ;go_wp2_with fail;go_ret;exact ⟨by rw [HR.o];rfl,rfl⟩
 | false=>
  have HR:=Hd (HJ.o.trans (if_neg (by rw [hb];decide)));clear HJ;go_wp2_with fail;go_ret;exact ⟨by rw [HR.o];rfl,rfl⟩
theorem oJ {l n:Nat} {P:Program} {ops:Array Oper} {Q:Exit→Act→World→Prop} (hlo:¬ LetsOut Q) (hd:∀ (i:Nat) (o:Oper) c,ops[i]? =some o→o.op≠ .defer c):
  ∀ (L:List Nat) (a:Act) (w:World),wpOps P ops Q L a w→wpOpsIn (Fence.wide.inRound l) n P ops Q L a w:=by
 intro L;induction L with
 | nil=>exact fun a w h=>h
 | cons i rest ih=>
  intro a w h;simp only [wpOps] at h;simp only [wpOpsIn];cases ho:ops[i]? with
  | none=>rw [ho] at h;exact ih a w h
  | some o=>
   rw [ho] at h;by_cases hw:Region.wanted o (yielded ops a.tmps)=true
   · simp only [hw,if_true] at h ⊢;rcases h with h | ⟨_,h⟩
     · refine ⟨fun _ _=>trivial,?_⟩;rw [Oper.semAt_eq _ _ _ (fun c=>hd i o c ho)];unfold Oper.wp at h;revert h;generalize (execOp a.eval o).run P w=r;intro h;unfold Oper.upon at h;unfold Oper.uponIn;split at h
       · exact ih _ _ h
       · exact ih _ _ h
       · exact ih _ _ h
       · refine ⟨fun h=>by simp [Fence.wide] at h,?_⟩;refine CallsIn.inRound l (callsIn_wide.2 (h.mono ?_));intro e w' hr;cases e with
         | returned v=>exact ih _ _ hr
         | panicked ch=>exact hr
         | outgrown=>exact hr
       · refine ⟨fun h=>by simp [Fence.wide] at h,?_⟩;intro c cs _;obtain ⟨v,w',hr,hs⟩:=h c cs;exact ⟨v,w',ih _ _ hr,stepsIn_wide.2 hs⟩
       · exact h
       · exact h.elim
     · exact absurd h hlo
   · simp only [hw,if_false,Bool.false_eq_true] at h ⊢;exact ⟨fun _ _=>trivial,ih _ _ h⟩
def sS (o:Oper):Bool:=match o.op with | .defer _=>false | _=>true
theorem jC {l n:Nat} {P:Program} {id:Nat} {ops:Array Oper} {Q:Exit→Act→World→Prop} {a:Act} {w:World} (S:World→Prop) (hlo:¬ LetsOut Q) (hd:ops.toList.all sS=true) (hm:P.follows .mixedOrders=true) (hS:S w.drew)
  (h:S w.drew→wpAnyH P .any ops Q S ops.size (Array.replicate ops.size false) a w.drew):(Code.region id ops true).wpIn (Fence.wide.inRound l) n P Q a w:=
 wpIn_region_draw fun t=>by
  simp only [Region.schedule,hm,Bool.true_or,if_true];refine oJ hlo (fun i o c ho e=>?_) _ _ _ (wpAny_sound ops.size t _ a _ (wpAny_of_held _ _ _ _ (h hS)));have h1:=List.all_eq_true.1 hd o (by rw [Array.getElem?_eq_some_iff] at ho;obtain ⟨h1,rfl⟩:=ho;exact Array.mem_toList_iff.2 (Array.getElem_mem h1));unfold sS at h1;rw [e] at h1;cases h1
open Go.RowKit Go.Shelf
attribute [local go_sem] Oper.semAt_some
theorem Ew (v:Array Value) (hv:v.size=2) (dev ino:Int) (w:World):Calls Tryz.prog 97 #[.agg v,flV dev ino] w fun e w' =>e= .returned (.func (.func 160) #[] #[.pointer (some ⟨w.heap.size,0,none⟩), .pointer (some ⟨w.heap.size+1,0,none⟩)])∧w' =(w.alloc (.cells v 31)).alloc (.cells #[.int .i64 dev, .int .i64 ino] 44):=by
 go_in
 go_wp2
 go_ret;exact ⟨rfl,rfl⟩
theorem bJ.block {w w' :World} {base:Nat} {v:Value} {L:List ByteArray} (h:bJ w base v L) (hb:∀ g,v.ownBlock=some g→w'.heap[g]? =w.heap[g]?):bJ w' base v L:=by
 refine ⟨h.1,?_⟩;rcases h.2 with hn | ⟨g,cap,cur,rfl,hb1,hgg,rest⟩
 · exact .inl hn
 · refine .inr ⟨g,cap,cur,rfl,hb1,?_,rest⟩;rw [hb g rfl];exact hgg
theorem Blk.obj {w:World} {g l:Nat} {t:TypeId} {cs:Array Value} (h:Blk w g t cs) {o:Obj} (o' :Obj) (ho:w.heap[l]? =some o) (hc:o.isCells=false):Blk (w.putObj l o') g t cs:=by
 have hne:l≠g:=fun e=>by
  subst e;have h' :w.heap[l]? =some (.cells cs t (0,0)):=h;rw [ho] at h';injection h' with h';rw [h'] at hc;cases hc
 exact (World.putObj_heap_other hne.symm).trans h
theorem KpB.refl (D:Nat) (g:Option Nat) (W:World):KpB D g W W:=fun _ _ _ h _=>h
theorem uh {f:List Dv} (h:FOk f) (l:List (Int×Int)):∀ s∈jU f l,s.size≤12:=fun s hs=>by
 obtain ⟨x,_,rfl⟩:=List.mem_map.1 hs;exact jN h x.1 x.2
theorem rG (L:List ByteArray) (h:∀ x∈L,x.size≤12):(iV L).size≤1+13 * L.length:=eB L ⟨#[47]⟩ h
theorem Blk.yw {X Y:World} {b:Nat} {t:TypeId} {cs:Array Value} {row:Option Nat} (h:Blk X b t cs) (hg:X.grownBy Y row) (hr:∀ r,row=some r→∃ o:Obj,X.heap[r]? =some o∧o.isCells=false):Blk Y b t cs:=h.grown hg (fun e=>by
 obtain ⟨o,ho,hc⟩:=hr b e;rw [show X.heap[b]? =_ from h] at ho;cases ho;cases hc)
theorem KpB.setCell {D:Nat} {g:Option Nat} {W:World} {p:Addr} (v:Value) (hD:D≠p.block) (hg:∀ q,g=some q→q≠p.block):KpB D g W (W.setCell p v):=fun b o hb ho _=>by
 refine (heap_setCell_other W p b v ?_).trans ho;rcases hb with rfl | hb
 · exact hD
 · exact hg b hb.symm
theorem yx {W:World} {base:Nat} {v:Value} {L:List ByteArray} (h:bJ W base v L):∀ (j:Nat) (o:Obj),v.ownBlock=some j→W.heap[j]? =some o→o.isCells=true:=fun j o hj ho=>by
 rcases h.2 with ⟨rfl,_⟩ | ⟨g,cap,cur,rfl,hb1,hgg,_⟩
 · cases hj
 · have e:g=j:=Option.some.inj hj;subst e;rw [hgg] at ho;injection ho with ho;subst ho;rfl
theorem bJ.Pq {W:World} {base G:Nat} {v:Value} {L:List ByteArray} {t:TypeId} {cs:Array Value} (h:bJ W base v L) (hg:Blk W G t cs) (ht:(9:Nat)≠t) (u:Value):bJ (W.setCell ⟨G,0,none⟩ u) base v L:=
 bJ.block h (fun g e=>heap_setCell_other W ⟨G,0,none⟩ g u (fun e2=>by
  have e2:g=G:=e2;subst e2;rcases h.2 with ⟨rfl,_⟩ | ⟨g',cap,cur,rfl,hb1,hgg,_⟩
  · cases e
  · have e3:g' =g:=Option.some.inj e;subst e3;rw [show W.heap[g']? =_ from hg] at hgg;injection hgg with hgg;injection hgg with _ h2;exact ht h2.symm))
theorem nz {z:Int×Int} :∀ {q l:List (Int×Int)} {rest:List (Int×Int)},(∀ x∈q,x≠z)→(∀ x∈l,x≠z)→(q ++ [z]) ++ rest=l ++ [z]→q=l
 | [], [],_,_,_,_=>rfl
 | [],y :: l,_,_,h2,e=>by
  simp only [List.nil_append,List.cons_append] at e;injection e with e _;exact absurd e.symm (h2 y (List.mem_cons_self ..))
 | x :: q, [],_,h1,_,e=>by
  simp only [List.nil_append,List.cons_append] at e;injection e with e _;exact absurd e (h1 x (List.mem_cons_self ..))
 | x :: q,y :: l,rest,h1,h2,e=>by
  simp only [List.cons_append] at e;injection e with e1 e2;rw [e1,nz (fun a ha=>h1 a (List.mem_cons_of_mem _ ha)) (fun a ha=>h2 a (List.mem_cons_of_mem _ ha)) (rest:=rest) (by rw [← e2])]
theorem uj {W:World} {D H:Nat} {s:ByteArray} {b:Bool} (a1:Blk W (H+2) 9 #[.string s]) (a2:Blk W (H+3) 4 #[.bool b]) (hD:H+4≤D):
  (W.putObj D (.deferred none)).cell? ⟨H+1+1,0,none⟩=some (.string s)∧(W.putObj D (.deferred none)).cell? ⟨H+1+1+1,0,none⟩=some (.bool b):=by
 have e1:Blk (W.putObj D (.deferred none)) (H+2) 9 #[.string s]:=(World.putObj_heap_other (by omega)).trans a1;have e2:Blk (W.putObj D (.deferred none)) (H+3) 4 #[.bool b]:=(World.putObj_heap_other (by omega)).trans a2;exact ⟨e1.cell 0,e2.cell 0⟩
theorem AQ (w:World) (s:ByteArray):bD (w.alloc (.cells #[.string s] 9)) (w.alloc (.cells #[.string s] 9)).heap.size (some ⟨w.heap.size,0,none⟩) [s]:=fun k hk=>by
 obtain rfl:k=0:=by simp at hk;omega
 exact ⟨_,rfl,by simp,(Blk.new w #[.string s] 9).cell 0⟩
def VWh (v0:Value) (s:ByteArray) (j:Nat) (v:Value) (W:World):Prop:=match j with
 | 0=>v=v0
 | 3=>v= .string s
 | 4=>∃ g:Nat,v= .slice (some ⟨g,0,none⟩) 1 1∧bD W W.heap.size (some ⟨g,0,none⟩) [s]
 | _=>True
theorem VWh.below {v0:Value} {s:ByteArray} {A B:World} (hb:Below A.heap.size A B) (j:Nat) (x:Value) (h:VWh v0 s j x A):VWh v0 s j x B:=by
 unfold VWh at h ⊢;split at h <;> first | exact h | (obtain ⟨g,h1,h2⟩:=h;exact ⟨g,h1,(h2.keep hb (Nat.le_refl _)).more hb.size⟩)
structure NmI (w:World) (H:Nat) (W0:World) (g:Nat) (xs:List BkS) (W:World):Prop where
 oth:KeepsOthers W0 W
 low:Below H w W
 R1:Blk W (H+2) 9 #[.string ⟨#[]⟩]
 R2:Blk W (H+3) 4 #[.bool false]
 box:Blk W g 9 #[.string (iV (bkT xs))]
theorem NmI.own {w W0:World} {H g B:Nat} (hB:W0.heap.size≤B) (hH:H≤B:=by omega):OwnFrom B (NmI w H W0 g):=fun s X Y row hs hg hr=>by
 have hr' :∀ r,row=some r→∃ o:Obj,X.heap[r]? =some o∧o.isCells=false:=fun r e=>(hr r e).2;refine ⟨⟨Nat.le_trans hs.oth.size hg.size,fun k o hk ho=>?_⟩,⟨hg.os.trans hs.low.os,hg.tape.trans hs.low.tape,hg.output.trans hs.low.output,Nat.le_trans hs.low.size hg.size,fun i hi=>?_⟩,hs.R1.yw hg hr',hs.R2.yw hg hr',hs.box.yw hg hr'⟩
 · have hX:=hs.oth.same k o hk ho;refine (hg.block k (Array.getElem?_eq_some_iff.1 hX).1 (fun e=>?_)).trans hX;have h1:=(hr k e.symm).1;have h2:=(Array.getElem?_eq_some_iff.1 hk).1;omega
 · have h3:=hs.R1.lt;refine (hg.block i (by omega) (fun e=>?_)).trans (hs.low.block i hi);have h1:=(hr i e.symm).1;omega
structure WhI (w:World) (H G:Nat) (sv:Array Value) (f:List Dv) (pre:List (Int×Int)) (W:World):Prop where
 low:Below H w W
 V:Blk W H 31 sv
 R1:Blk W (H+2) 9 #[.string ⟨#[]⟩]
 R2:Blk W (H+3) 4 #[.bool false]
 N:∃ v,Blk W G 49 #[v]∧bJ W (G+3) v (jU f pre)
 no:∀ x∈pre,x≠(0,1)
 hG:H+4≤G
structure WhR (w:World) (H G:Nat) (f:List Dv) (c:Code) (pre:List (Int×Int)) (W:World):Prop where
 ret:c= .ret
 low:Below H w W
 ans:∃ q,pre=q ++ [(0,1)]∧(∀ x∈q,x≠(0,1))∧Blk W (H+2) 9 #[.string (iV (jU f q).reverse)]
 R2:Blk W (H+3) 4 #[.bool true]
 hG:H+4≤G
section
variable {w A B:World} {H G:Nat} {sv:Array Value} {f:List Dv} {pre:List (Int×Int)} {c:Code}
theorem WhI.mid (h:WhI w H G sv f pre A) (hm:Mid (G+1) (G+3) A B):WhI w H G sv f pre B:=by
 obtain ⟨v,h1,h2⟩:=h.N;have:=h.hG;exact ⟨h.low.trans (hm.low.mono (by omega)),h.V.keep hm.low (by omega),h.R1.keep hm.low (by omega),h.R2.keep hm.low (by omega),⟨v,h1.keep hm.low (by omega),h2.block fun g hg=>hm.high g (World.ownsRow.lt h2 g hg).1 (World.ownsRow.lt h2 g hg).2⟩,h.no,h.hG⟩
theorem WhR.mid (h:WhR w H G f c pre A) (hm:Mid (G+1) (G+3) A B):WhR w H G f c pre B:=by
 obtain ⟨q,h1,h2,h3⟩:=h.ans;have:=h.hG;exact ⟨h.ret,h.low.trans (hm.low.mono (by omega)),⟨q,h1,h2,h3.keep hm.low (by omega)⟩,h.R2.keep hm.low (by omega),h.hG⟩
theorem WhI.obj (h:WhI w H G sv f pre A) {l:Nat} {o:Obj} (o' :Obj) (hl:H≤l) (ho:A.heap[l]? =some o) (hc:o.isCells=false):WhI w H G sv f pre (A.putObj l o'):=by
 obtain ⟨v,h1,h2⟩:=h.N;exact ⟨h.low.trans (jA A o' hl (Array.getElem?_eq_some_iff.1 ho).1),h.V.obj o' ho hc,h.R1.obj o' ho hc,h.R2.obj o' ho hc,⟨v,h1.obj o' ho hc,ownsRow_putObj h2 o' ho hc⟩,h.no,h.hG⟩
theorem WhR.obj (h:WhR w H G f c pre A) {l:Nat} {o:Obj} (o' :Obj) (hl:H≤l) (ho:A.heap[l]? =some o) (hc:o.isCells=false):WhR w H G f c pre (A.putObj l o'):=by
 obtain ⟨q,h1,h2,h3⟩:=h.ans;exact ⟨h.ret,h.low.trans (jA A o' hl (Array.getElem?_eq_some_iff.1 ho).1),⟨q,h1,h2,h3.obj o' ho hc⟩,h.R2.obj o' ho hc,h.hG⟩
end
structure WhX (H:Nat) (hi:Nat) (fr:Nat→Value→Act) (x:Int×Int) (a:Act) (W:World):Prop where
 ex:∃ g,a=fr g (flV x.1 x.2)∧Blk W g 44 #[.int .i64 x.1, .int .i64 x.2]∧hi≤g
theorem yz (ds:List Dm) (A:Option Addr) (n c:Nat) (hn:n=ds.length) (ms:List Mt) (Am:Option Addr) (nm cm:Nat) (hnm:nm=ms.length) (hl:nm≤1000) (hok:FOk (ds.map Dm.dv)) {k:Nat} {dev ino:Int} {L:List ByteArray} (h:lT (ds.map Dm.dv) ms k dev ino L) (hk:k≤yM (ds.map Dm.dv)) (hk9:k≤1000)
  (Nj:bM (ds.map Dm.dv) dev ino=true) (hmt:fE ms dev=true) (w:World) (hf:bZ w w.heap.size A ds) (hm:AtE EMt w w.heap.size Am ms):
  Calls Tryz.prog 49 #[.agg #[slV A n c,slV Am nm cm],flV dev ino] w (WhP (iV L) true w):=by
 have Qc:Tryz.prog.follows .mixedOrders=true:=by kernel_rfl
 obtain ⟨H,hH⟩:∃ H,w.heap.size=H:=⟨_,rfl⟩;obtain ⟨w0,hw0⟩:∃ w0,w0=(((w.alloc (.cells #[slV A n c,slV Am nm cm] 31)).alloc (.cells #[.int .i64 dev, .int .i64 ino] 44)).alloc (.cells #[.string ⟨#[]⟩] 9)).alloc (.cells #[.bool false] 4):=⟨_,rfl⟩;have B0:Below H w w0:=by rw [hw0, ← hH];exact ((((Below.refl _ _).alloc (Nat.le_refl _) _).alloc (by simp) _).alloc (by simp;omega) _).alloc (by simp;omega) _
 have hs0:w0.heap.size=H+4:=by rw [hw0, ← hH];simp
 have V0:Blk w0 H 31 #[slV A n c,slV Am nm cm]:=by rw [hw0, ← hH];exact (((Blk.new w _ _).alloc _).alloc _).alloc _
 have U0:Blk w0 (H+1) 44 #[.int .i64 dev, .int .i64 ino]:=by
  have:=Blk.new (w.alloc (.cells #[slV A n c,slV Am nm cm] 31)) #[.int .i64 dev, .int .i64 ino] 44;simp only [World.size_alloc,hH] at this;rw [hw0];exact (this.alloc _).alloc _
 have R1:Blk w0 (H+2) 9 #[.string ⟨#[]⟩]:=by
  have:=Blk.new ((w.alloc (.cells #[slV A n c,slV Am nm cm] 31)).alloc (.cells #[.int .i64 dev, .int .i64 ino] 44)) #[.string ⟨#[]⟩] 9;simp only [World.size_alloc,hH] at this;rw [hw0];exact this.alloc _
 have R2:Blk w0 (H+3) 4 #[.bool false]:=by
  have:=Blk.new (((w.alloc (.cells #[slV A n c,slV Am nm cm] 31)).alloc (.cells #[.int .i64 dev, .int .i64 ino] 44)).alloc (.cells #[.string ⟨#[]⟩] 9)) #[.bool false] 4;simp only [World.size_alloc,hH] at this;rw [hw0];exact this
 have F0:=hf.keep B0 (by omega);have M0:=hm.keep B0 (by omega);have HN:=Hd hn;have HNM:=Hd hnm;clear hn hnm;refine (callsIn_wide (n:=20)).1 ?_;refine callsIn_of_wp_marks Tryz.func49 rfl trivial ?_ rfl;simp only [Tryz.ntmps49,List.size_toArray,List.length_cons,List.length_nil,Nat.reduceAdd,Nat.reduceSub,Array.replicate_succ,Array.replicate_zero,List.push_toArray,List.append_toArray,List.nil_append,List.cons_append]
 gi_wp2_with fail
 rw [← hw0];clear hw0;refine ⟨trivial,(callsIn_wide.2 (Cf dev ino ds A n c HN.o (slV Am nm cm) w0 (F0.more (by omega)))).mono ?_⟩;rw [Nj];rintro en w1 ⟨rfl,hb1⟩;have V1:=V0.below hb1;have U1:=U0.below hb1;have R11:=R1.below hb1;have R21:=R2.below hb1;have F1:=F0.keep hb1 (by omega);have M1:=M0.keep hb1 (by omega);have B1:Below H w w1:=B0.trans (hb1.mono (by omega));have hs1:H+4≤w1.heap.size:=by have:=hb1.size;omega
 clear hb1 V0 U0 R1 R2 F0 M0 B0 hs0 w0 Nj;have u0:=U1.cell 0;have v0:=V1.cell 0;have v1:=V1.cell 1
 gi_wp2_with fail
 clear u0 v0 v1;refine ⟨trivial,(callsIn_wide.2 (IV dev (slV A n c) ms Am nm cm HNM.o hl w1 (M1.more (by omega)))).mono ?_⟩;rw [hmt];rintro en w2 ⟨rfl,hb1⟩;have V2:=V1.below hb1;have U2:=U1.below hb1;have R12:=R11.below hb1;have R22:=R21.below hb1;have F2:=F1.keep hb1 (by omega);have M2:=M1.keep hb1 (by omega);have B2:Below H w w2:=B1.trans (hb1.mono (by omega));have hs2:H+4≤w2.heap.size:=by have:=hb1.size;omega
 clear hb1 V1 U1 R11 R21 F1 M1 B1 hs1 w1 hmt;have v0:=(V2.alloc (.cells #[.slice none 0 0] 49)).cell 0;have v1:=(V2.alloc (.cells #[.slice none 0 0] 49)).cell 1;have u0:=(U2.alloc (.cells #[.slice none 0 0] 49)).cell 0;have u1:=(U2.alloc (.cells #[.slice none 0 0] 49)).cell 1
 gi_wp2_with fail
 clear u0 u1 v0 v1;refine ⟨trivial,(callsIn_wide.2 (Ew #[slV A n c,slV Am nm cm] rfl dev ino _)).mono ?_⟩;rintro en w3 ⟨rfl,hw3⟩;obtain ⟨G,hG⟩:∃ G,w2.heap.size=G:=⟨_,rfl⟩;rw [World.size_alloc,hG];have hs3:w3.heap.size=G+3:=by rw [hw3, ← hG];simp
 have b23:Below G w2 w3:=by rw [hw3, ← hG];exact (((Below.refl _ _).alloc (Nat.le_refl _) _).alloc (by simp) _).alloc (by simp;omega) _
 have hI0:WhI w H G #[slV A n c,slV Am nm cm] (ds.map Dm.dv) [] w3:=by
  refine ⟨B2.trans (b23.mono (by omega)),V2.keep b23 (by have:=V2.lt;omega),R12.keep b23 (by have:=R12.lt;omega),R22.keep b23 (by have:=R22.lt;omega),⟨.slice none 0 0,?_,bJ.nil _ _⟩,(fun x hx=>by cases hx),by omega⟩;rw [hw3, ← hG];exact ((Blk.new w2 _ _).alloc _).alloc _
 have hC0:ChS w3 w3 H (G+1) A n c ds Am nm cm ms dev ino:=by
  refine ⟨?_,?_,F2.keep b23 (by omega) |>.more (by omega),M2.keep b23 (by omega) |>.more (by omega),by omega⟩
  · have:=Blk.new (w2.alloc (.cells #[.slice none 0 0] 49)) #[slV A n c,slV Am nm cm] 31;simp only [World.size_alloc,hG] at this;rw [hw3];exact this.alloc _
  · have:=Blk.new ((w2.alloc (.cells #[.slice none 0 0] 49)).alloc (.cells #[slV A n c,slV Am nm cm] 31)) #[.int .i64 dev, .int .i64 ino] 44;simp only [World.size_alloc,hG] at this;rw [hw3];exact this
 obtain ⟨l0,hch,hlen,hl0,hL⟩:=h.chn;have hGH:H+4≤G:=by omega
 clear hw3 b23 V2 U2 R12 R22 F2 M2 B2 hs2
 gi_wp2
 refine qD (lo:=G+1) (hi:=G+1+2) rfl (by decide) (gf:=160) (lb:=#[.pointer (some ⟨G+1,0,none⟩), .pointer (some ⟨G+1+1,0,none⟩)]) rfl trivial (enters_of Tryz.func160 (by kernel_rfl) rfl)
  (by omega) (by omega) (jT H (G+1)) (fun h k=>h.trans k) (fun A l o o' hl ho hc=>jT.obj A l o o' (by omega) ho hc)
  (yn (20 - 1) (G+1) H (by decide) ds A n c HN.o ms Am nm cm HNM.o hl dev ino _ hch (by rw [hlen];exact hk) w3 hC0) rfl
  (WhI w H G #[slV A n c,slV Am nm cm] (ds.map Dm.dv)) (WhR w H G (ds.map Dm.dv)) (fun _ _ _ h hb=>h.mid hb) (fun _ _ _ _ h hb=>h.mid hb) (fun _ _ l o o' h hl ho hc=>h.obj o' (by omega) ho hc) (fun _ _ _ l o o' h hl ho hc=>h.obj o' (by omega) ho hc) hI0
  (WhX H (G+3) (fun g v=> { tmps:=#[Value.agg #[slV A n c,slV Am nm cm],flV dev ino,Value.pointer (some { block:=H,off:=0 }),
        Value.pointer (some { block:=H+1,off:=0 }),Value.pointer (some { block:=H+1+1,off:=0 }),
        Value.pointer (some { block:=H+1+1+1,off:=0 }),Value.pointer (some { block:=G,off:=0 }),
        Value.pointer (some { block:=g,off:=0 }),undef,undef,undef,
        Value.agg #[slV A n c,slV Am nm cm],Value.agg #[Value.int IntKind.i64 dev,Value.int IntKind.i64 ino],
        Value.bool true,Value.bool false,Value.bool false,Value.agg #[slV A n c,slV Am nm cm],
        Value.pointer (some { block:=H+1,off:=0 }),Value.int IntKind.i64 dev,Value.bool true,
        Value.bool false,Value.bool false,Value.agg #[slV A n c,slV Am nm cm],
        Value.agg #[Value.int IntKind.i64 dev,Value.int IntKind.i64 ino],
        Value.func (Fn.func 160) #[]
          #[Value.pointer (some { block:=G+1,off:=0 }),Value.pointer (some { block:=G+1+1,off:=0 })],
        v,undef,undef,undef,undef,undef,undef,undef,undef,undef,undef,undef,undef,undef,
        undef,undef,undef,undef,undef,undef,undef,undef,undef],defers:= [] })) (fun x a' A l o o' h ho hc=>by obtain ⟨g,h1,h2,h3⟩:=h.ex;exact ⟨g,h1,h2.obj o' ho hc,h3⟩) ?assign ?body ?done ?stop
 case assign=>
  intro l pre x W K hI hhi hK
  gi_wp2
  have hb:=(Below.refl W.heap.size W).alloc (Nat.le_refl _) (.cells #[.int .i64 x.1, .int .i64 x.2] 44);exact hK _ _ (KeepsOthers.alloc _ _) (jT.below hb (by omega)) (hI.mid (fZ hb (by omega))) ⟨⟨W.heap.size,rfl,Blk.new W _ _,by omega⟩⟩
 case body=>
  rintro l pre x a' W - hI hX ⟨r,hr⟩ hl hhi hlen;obtain ⟨g,rfl,hX,hg⟩:=hX.ex;obtain ⟨xd,xi⟩:=x;have x0:=hX.cell 0;have x1:=hX.cell 1;have hn1:1≤20 - 1 - 1:=by decide
  by_cases hx:xd=0∧xi=1
  · obtain ⟨rfl,rfl⟩:=hx;obtain ⟨v,hN,hO⟩:=hI.N;have HX:=Hd hX;have HI:=Hd hI;have n0:(W.alloc (.cells #[.string ⟨#[47]⟩] 9)).cell? ⟨G,0,none⟩=some v:=(hN.alloc (.cells #[.string ⟨#[47]⟩] 9)).cell 0;have n1:W.cell? ⟨G,0,none⟩=some v:=hN.cell 0;have n2:G < W.heap.size:=hN.lt;have n3:G≠W.heap.size:=(by omega);obtain ⟨A1,c1,rfl,hst⟩:=hO.strs;have HST:=Hd hst;have HAB:=Hd (show ∀ q,(A1.map Addr.block)=some q→q < W.heap.size from fun q hq=>by
      cases A1 with
      | none=>cases hq
      | some ad=>exact (World.ownsRow.lt hO q (by rw [← hq];rfl)).2)
    have HLN:=Hd (show (jU (ds.map Dm.dv) pre).length≤1000 by
      have h1:(jU (ds.map Dm.dv) pre).length≤pre.length:=(by unfold jU;rw [List.length_map];exact List.length_filter_le _ _);omega)
    have LG:=Hd (uh hok pre);have Ps:=Hd (show ∀ x∈pre,x≠(0,1) from hI.no);have HRI:=Hd (And.intro hI.low (And.intro hI.R1 hI.R2));generalize hLL:jU (ds.map Dm.dv) pre=LL at *;have HLL:=Hd hLL;clear hI hX hO hst hLL
    gi_wp2_with fail
    refine ⟨trivial,CallsIn.inRound l ((callsIn_wide.2 (IX A1 LL.length c1 _)).mono ?_)⟩;rintro en w3 ⟨rfl,hw3⟩;rw [World.size_alloc];have bW3:Below W.heap.size W w3:=(by rw [hw3];exact ((Below.refl _ _).alloc (Nat.le_refl _) _).alloc (by simp) _);have hs3:w3.heap.size=W.heap.size+1+1:=(by rw [hw3];simp);have WB:=Hd (show Blk w3 W.heap.size 9 #[.string ⟨#[47]⟩] by rw [hw3];exact (Blk.new W _ _).alloc _);have hD3:Blk w3 (W.heap.size+1) 49 #[.slice A1 LL.length c1]:=by
      have:=Blk.new (W.alloc (.cells #[.string ⟨#[47]⟩] 9)) #[.slice A1 LL.length c1] 49;rw [World.size_alloc] at this;rw [hw3];exact this
    have hl3:w3.heap[l]? =some (.loop r):=(bW3.block l (Array.getElem?_eq_some_iff.1 hr).1).trans hr;have HK3:=Hd (show KeepsOthers W w3 by rw [hw3];exact (KeepsOthers.alloc _ _).trans (KeepsOthers.alloc _ _));have HR3:=Hd (And.intro (HRI.o.1.trans (bW3.mono (by omega))) (And.intro (HRI.o.2.1.below bW3) (HRI.o.2.2.below bW3)));clear hw3 HRI HX HI n0 n1
    gi_wp2
    refine wpIn_rangeFunc_ownN (l₀:=l) rfl hl3 (by decide) (gf:=161) (lb:=#[.pointer (some ⟨W.heap.size+1,0,none⟩)]) rfl trivial (enters_of Tryz.func161 (by kernel_rfl) rfl)
      (SeqStopsK.inRound l (AP _ (W.heap.size+1) (by decide) A1 LL.length c1 LL rfl (by have:=HLN.o;omega) LG.o W.heap.size w3 hD3 (by omega) (HST.o.keep bW3 (Nat.le_refl _))))
      (fun h k=>h.trans k) (fun W' l' o o' _ h1 h2 _=>KpB.obj W' l' o o' h1 h2) (Below.refl _ _) (fun _=>rfl)
      (fun xs W' =>NmI w H W W.heap.size xs W') (fun _ _ _=>False) (NmI.own (by omega)) (fun _ _ _ _ _ h _ _=>h) ⟨HK3.o,HR3.o.1,HR3.o.2.1,HR3.o.2.2,WB.o⟩
      (fun x a' _=>a' = { tmps:=#[Value.agg #[slV A n c,slV Am nm cm],flV dev ino,Value.pointer (some { block:=H,off:=0 }),
           Value.pointer (some { block:=H+1,off:=0 }),
           Value.pointer (some { block:=H+1+1,off:=0 }),
           Value.pointer (some { block:=H+1+1+1,off:=0 }),
           Value.pointer (some { block:=G,off:=0 }),Value.pointer (some { block:=g,off:=0 }),
           Value.pointer (some { block:=W.heap.size,off:=0 }),undef, .string x.1.2,
           Value.agg #[slV A n c,slV Am nm cm],Value.agg #[Value.int IntKind.i64 dev,Value.int IntKind.i64 ino],
           Value.bool true,Value.bool false,Value.bool false,Value.agg #[slV A n c,slV Am nm cm],
           Value.pointer (some { block:=H+1,off:=0 }),Value.int IntKind.i64 dev,Value.bool true,
           Value.bool false,Value.bool false,Value.agg #[slV A n c,slV Am nm cm],
           Value.agg #[Value.int IntKind.i64 dev,Value.int IntKind.i64 ino],
           Value.func (Fn.func 160) #[]
            #[Value.pointer (some { block:=G+1,off:=0 }),
             Value.pointer (some { block:=G+1+1,off:=0 })],
           flV 0 1,Value.bool true,Value.agg #[Value.int IntKind.i64 0,Value.int IntKind.i64 1],
           Value.agg #[Value.int IntKind.i64 0,Value.int IntKind.i64 1],Value.bool true, .slice A1 LL.length c1, .func (.func 161) #[] #[.pointer (some ⟨W.heap.size+1,0,none⟩)], .int .i64 x.1.1, .string x.1.2,
           undef,undef,undef,undef,undef,undef,undef,undef,undef,undef,undef,undef,undef,undef],defers:= [] }) (fun _ _=>ownFrom_pure _ _) ?as2 ?bo2 ?do2 ?st2
    case as2=>
      intro l2 Ex x2 W2 K2 hI2 hK2
      gi_wp2
      exact hK2 _ _ (KeepsFrom.refl _ _) (KpB.refl _ _ _) hI2 rfl
    case bo2=>
      intro l2 Ex x2 a2 W2 hl2 hr2 hI2 ha2 Pt;subst ha2;have b0:=hI2.box.cell 0;have f0:=hI2.box.free 0;have HI2:=Hd hI2;have HSZ:=Hd (show (iV (bkT Ex)).size≤100000000 by
        have h1:=rG (bkT Ex) (yt Ex);have h2:(bkT Ex).length=Ex.length:=List.length_map ..;have:=HLN.o;omega)
      have HX2:=Hd x2.2;clear hI2
      gi_wp2_with fail
      refine ⟨trivial,CallsIn.inRound l2 (CallsIn.inRound l ((callsIn_wide.2 (IY _ _ HSZ.o (by have:=HX2.o;omega) W2)).mono ?_))⟩;rintro e w4 ⟨rfl,rfl⟩
      gi_wp2_with fail
      exact ⟨(KeepsOthers.setCell _ _ _).from _,KpB.setCell (p:=⟨W.heap.size,0,none⟩) _ (by show W.heap.size+1≠W.heap.size;omega) (fun q hq=>by have:=HAB.o q hq;show q≠W.heap.size;omega),(HI2.o.oth).trans (KeepsOthers.setCell _ _ _),HI2.o.low.setCell (p:=⟨W.heap.size,0,none⟩) (by show H≤W.heap.size;omega) _,HI2.o.R1.af _ (by show H+2≠W.heap.size;omega),HI2.o.R2.af _ (by show H+3≠W.heap.size;omega),by
        have:=HI2.o.box.put 0 (.string (eX (iV (bkT Ex)) x2.1.2));rw [yo,show bkT [x2]= [x2.1.2] from rfl,mF];exact this⟩
    case do2=>
      intro xs W2 hS hI2;have b0:=hI2.box.cell 0;have r1:=hI2.R1.cell 0;have f1:=hI2.R1.free 0;have r2:=hI2.R2.cell 0;have f2:=hI2.R2.free 0;rw [show bkT xs=LL.reverse from hS] at b0;have HI2:=Hd hI2;clear hI2 hS
      gi_wp2_with fail
      exact ⟨(HI2.o.oth.trans (KeepsOthers.setCell _ _ _)).trans (KeepsOthers.setCell _ _ _),rfl,(HI2.o.low.setCell (p:=⟨H+1+1,0,none⟩) (by show H≤H+1+1;omega) _).setCell (p:=⟨H+1+1+1,0,none⟩) (by show H≤H+1+1+1;omega) _,
        ⟨pre,rfl,Ps.o,by rw [HLL.o];exact (HI2.o.R1.put 0 _).af _ (by show H+2≠H+1+1+1;omega)⟩,(HI2.o.R2.af (p:=⟨H+1+1,0,none⟩) _ (by show H+3≠H+1+1;omega)).put 0 _,hGH⟩
    case st2=>intro _ _ _ _ h;exact h.elim
  · have HNO:=Hd (show ∀ y∈pre ++ [(xd,xi)],y≠(0,1) from fun y hy=>by
      rcases List.mem_append.1 hy with hy | hy
      · exact hI.no y hy
      · rw [List.mem_singleton] at hy;subst hy;intro e;injection e with e1 e2;exact hx ⟨e1,e2⟩)
    by_cases hxi:xi=1
    · subst hxi;have b0:=(aM (fun h0:xd=0=>hx ⟨h0,rfl⟩)).1;clear hx
      gi_wp2_with fail
      exact ⟨KeepsOthers.refl _,⟨Below.refl _ _,fun _ _ _ _ _ h=>h⟩,hI.low,hI.V,hI.R1,hI.R2,by rw [sQ,sP];simpa [jU] using hI.N,HNO.o,hI.hG⟩
    · have b1:=(aM hxi).2;have b0:=(aM hxi).1;have HXI:=Hd hxi;clear hxi hx
      gi_wp2_with fail
      clear x0 x1 b0 b1;obtain ⟨v,hN,hO⟩:=hI.N;have HI:=Hd hI;have HX:=Hd hX;have HO:=Hd hO;have HLEN:=Hd hlen;clear hI hX hO hlen;have HIN:=Hd (show bZ W W.heap.size A ds from (hf.keep HI.o.low (by omega)).more (by have:=HI.o.hG;have:=HI.o.V.lt;omega));have HVV:=Hd HI.o.V;have J0:=Hd (show Blk W.drew G 49 #[v]∧bJ W.drew (G+3) v (jU (ds.map Dm.dv) pre)∧Below W.heap.size W W.drew from ⟨hN.below (Below.refl _ _).drew,bJ.below HO.o (Below.refl _ _).drew,(Below.refl _ _).drew⟩);refine jC (fun W' =>Blk W' H 31 #[slV A n c,slV Am nm cm]∧Blk W' g 44 #[.int .i64 xd, .int .i64 xi]) (fun hlo=>by obtain ⟨_,_,h⟩:=hlo;exact h) rfl (by kernel_rfl) ⟨Blk.below HI.o.V (Below.refl _ _).drew,Blk.below HX.o (Below.refl _ _).drew⟩ (fun hHeld=>?_);refine tk hHeld 1 ?_ ?_ (tk hHeld 2 ?_ ?_ ?_);iterate 2
        rotate_left
        · intro W hSw;have s1:=hSw.1.cell 0;have s2:=hSw.1.cell 1;have s3:=hSw.2.cell 0;have s4:=hSw.2.cell 1;go_simp;try (with_reducible rfl)
      refine bn [0,3,4] [(0,42),(3,45),(4,46)] (fun W' =>Blk W' G 49 #[v]∧bJ W' (G+3) v (jU (ds.map Dm.dv) pre)∧Below W.heap.size W W') (VWh v (dZ (ds.map Dm.dv) xd xi)) (fun A B=>Below A.heap.size A B) 2 hHeld J0.o rfl (by kernel_rfl) (by kernel_rfl) (fun A B hb=>⟨fun h=>⟨Blk.below h.1 hb,Blk.below h.2 hb⟩,fun h=>⟨Blk.below h.1 hb,bJ.below h.2.1 hb,aa h.2.2 hb⟩,fun j x h=>VWh.below hb j x h⟩) ?steps ?fin;case steps=>
        refine aY.cons (i:=0) rfl (fun u W1 hSW hJW hpre K hK=>?_) ?_
        · dsimp only [bN,List.foldl];have s0:=hJW.1.cell 0;go_simp;exact hK.o v _ _ (by kernel_rfl) rfl (Below.refl _ _)
        refine aY.cons (i:=3) rfl (fun u W1 hSW hJW hpre K hK=>?_) ?_
        · dsimp only [bN,List.foldl];go_simp;go_at_call 100;refine (IW xd xi ds A n c HN.o (slV Am nm cm) W1 ((hf.keep (HI.o.low.trans (hJW.2.2.mono (by omega))) (by omega)).more (by have:=hJW.1.lt;have:=HI.o.hG;omega))).mono ?_;rintro e W2 ⟨rfl,hb⟩;go_simp;exact hK.o (.string (dZ (ds.map Dm.dv) xd xi)) _ _ (by kernel_rfl) rfl hb
        refine aY.cons (i:=4) rfl (fun u W1 hSW hJW hpre K hK=>?_) ?_
        · dsimp only [bN,List.foldl];have e0:u 3= .string (dZ (ds.map Dm.dv) xd xi):=hpre 3 rfl (by kernel_rfl);rw [← pV e0] at hK;go_simp;exact hK.o (.slice (some ⟨W1.heap.size,0,none⟩) 1 1) _ _ (by kernel_rfl) ⟨W1.heap.size,rfl,AQ W1 (dZ (ds.map Dm.dv) xd xi)⟩ ((Below.refl _ _).alloc (Nat.le_refl _) _)
        exact aY.nil
      case fin=>
      intro u W1 hHeld hJ hV;dsimp only [bN,List.foldl];have e0:u 0=v:=hV 0 rfl;obtain ⟨g4,e4,h4⟩:∃ g:Nat,u 4= .slice (some ⟨g,0,none⟩) 1 1∧bD W1 W1.heap.size (some ⟨g,0,none⟩) [dZ (ds.map Dm.dv) xd xi]:=hV 4 rfl;simp only [e0,e4];have RW:=Hd h4;have HJ:=Hd hJ;clear h4 e0 e4 hV hJ J0;have HLN:=Hd (show (jU (ds.map Dm.dv) pre).length+1≤1000000 by
        have h1:(jU (ds.map Dm.dv) pre).length≤pre.length:=(by unfold jU;rw [List.length_map];exact List.length_filter_le _ _);have:=HLEN.o;omega)
      refine rdy1 5 (fun K hK=>?_);refine dO (by rfl) (.tmp 42) (.tmp 46) (by rfl) (G+3) v (jU (ds.map Dm.dv) pre) (by rfl) HJ.o.2.1 W1.heap.size (some ⟨g4,0,none⟩) 1 1 [dZ (ds.map Dm.dv) xd xi] (by rfl) (by rfl) RW.o HLN.o (by have:=HJ.o.2.2.size;omega) ?_;intro v5 w5 ho5 hg5 Lc;have OS:=Hd (nX HJ.o.2.1);have hh:=And.intro (hHeld.1.grown hg5 (ay OS.o hHeld.1 (by decide))) (hHeld.2.grown hg5 (ay OS.o hHeld.2 (by decide)));have G5:=Hd (HJ.o.1.grown hg5 (ay OS.o HJ.o.1 (by decide)));have HG5:=Hd hg5;have hoc:=ho5;obtain ⟨A5,c5,rfl,_⟩:=ho5.strs;have O5:=Hd hoc;generalize hl5:(jU (ds.map Dm.dv) pre ++ [dZ (ds.map Dm.dv) xd xi]).length=l5 at *;clear hl5 hoc hg5 Lc ho5;refine hK.o _ _ hh (fun hHeld=>?_);clear hK K hh;have c0:=G5.o.cell 0;have f0:=G5.o.free 0;refine rdy1 6 (fun K hK=>?_);have hh:=And.intro (hHeld.1.af (p:=⟨G,0,none⟩) (.slice A5 l5 c5) (by show H≠G;omega)) (hHeld.2.af (p:=⟨G,0,none⟩) (.slice A5 l5 c5) (by show g≠G;omega));go_simp;refine hK.o _ _ hh (fun hHeld=>?_);clear hK K hh c0 f0;refine wpAnyH_done (by kernel_rfl) ?_ _;have HKO:=Hd (show KeepsOthers W w5 from (KeepsOthers.trans ⟨HJ.o.2.2.size,fun q o hq _=>(HJ.o.2.2.block q (Array.getElem?_eq_some_iff.1 hq).1).trans hq⟩ (KeepsOthers.of_grownBy HG5.o (yx HJ.o.2.1))));have HB5:=Hd (show Below H W w5 from (HJ.o.2.2.mono (by have:=HI.o.hG;have:=HI.o.V.lt;omega)).grown HG5.o (by have:=HJ.o.1.lt;omega) (fun q e=>by have:=(World.ownsRow.lt HJ.o.2.1 q e).1;omega));go_wp2_with fail;refine ⟨HKO.o.trans (KeepsOthers.setCell _ _ _),⟨HB5.o.setCell (p:=⟨G,0,none⟩) (by show H≤G;omega) _,fun b hb t cs ht hq=>?_⟩,(HI.o.low.trans HB5.o).setCell (p:=⟨G,0,none⟩) (by show H≤G;omega) _,hHeld.1,?_,?_,⟨_,G5.o.put 0 _,?_⟩,HNO.o,HI.o.hG⟩
      · have q1:=hq.keep HJ.o.2.2 hq.lt;exact (q1.grown HG5.o (ay OS.o q1 (fun e=>ht e.symm))).af _ (by show b≠G;omega)
      · have q1:=HI.o.R1.keep HJ.o.2.2 HI.o.R1.lt;exact (q1.grown HG5.o (fun e=>by have:=(World.ownsRow.lt HJ.o.2.1 _ e).1;omega)).af _ (by show H+2≠G;omega)
      · have q1:=HI.o.R2.keep HJ.o.2.2 HI.o.R2.lt;exact (q1.grown HG5.o (fun e=>by have:=(World.ownsRow.lt HJ.o.2.1 _ e).1;omega)).af _ (by show H+3≠G;omega)
      · rw [sQ,qy _ HXI.o];exact bJ.Pq O5.o G5.o (by decide) _
 case done=>
  rintro D xs W hD rfl hI hK;exact absurd rfl (hI.no (0,1) (by simp))
 case stop=>
  rintro D c pre W hD ⟨rest,hS⟩ hI hK;obtain ⟨q,rfl,hq,r1⟩:=hI.ans;have r2:=hI.R2;have hlow:=hI.low;obtain rfl:=hI.ret;obtain rfl:q=l0:=nz hq hl0 hS;have HLT:=Hd hL;clear hI hS
  gi_wp2
  obtain ⟨d1,d2⟩:=uj r1 r2 (show H+4≤D by omega);refine ⟨by simp, .inl ⟨_,_,rfl,run_takeDeferred hK,?_⟩⟩;refine ⟨.tuple #[.string (iV (jU (ds.map Dm.dv) q).reverse), .bool true],by simp [results,Tryz.results49,go_sem,d1,d2],by rw [HLT.o],?_⟩;rw [hH];exact hlow.trans (jA W _ (by omega) (Array.getElem?_eq_some_iff.1 hK).1)
end Go.Proofs.YtollifnnpihfdaaGreatDoor
namespace Go.Proofs.YtollifnnpihfdaaGreatDoor
open Go.RowKit
theorem Ey (v:Value) (w:World):Calls Tryz.prog 220 #[.slice none 0 0,v] w fun e w' =>e= .returned (.int .i64 (-1))∧Below w.heap.size w w' :=by
 go_in;go_wp2_with fail;go_loopw [9] (fun i wr=>i= .int .i64 0∧Below w.heap.size w wr) (fun _ _=>0);case atStart=>exact ⟨rfl,Below.refl _ _⟩
 case round=>
  obtain ⟨rfl,hb⟩:=hrel;go_wp2_with fail;go_ret;exact ⟨rfl,hb⟩
attribute [-go_sem] loadVar
attribute [local go_sem] DV DW Ii Ij Ik
attribute [local irreducible] gT
theorem Ez (li:Int) (cx:Ctx) (cr:eH) (Ai:Option Addr) (ni ci:Nat) (w:World):Calls Tryz.prog 157 #[.slice none 0 0, .int .i64 li, .slice none 0 0,MH cx cr (.slice Ai ni ci)] w fun e w' =>e= .returned (.int .i64 (-1))∧Below w.heap.size w w' :=by
 have s1:(w.alloc (.cells #[.int .i64 li] 3)).heap.size=w.heap.size+1:=by simp
 have s2:((w.alloc (.cells #[.int .i64 li] 3)).alloc (.cells #[.slice none 0 0] 203)).heap.size=w.heap.size+1+1:=by simp
 have B0:=Hd (show Below w.heap.size w (((w.alloc (.cells #[.int .i64 li] 3)).alloc (.cells #[.slice none 0 0] 203)).alloc (.cells (gT cx cr (.slice Ai ni ci)) 54)) from (((Below.refl w.heap.size w).alloc (Nat.le_refl _) _).alloc (by rw [s1];omega) _).alloc (by rw [s2];omega) _);clear s1 s2;go_in;go_upto_region 1 with fail;generalize ((w.alloc (.cells #[.int .i64 li] 3)).alloc (.cells #[.slice none 0 0] 203)).alloc (.cells (gT cx cr (.slice Ai ni ci)) 54)=W at *;go_wp2_with fail;refine (Ey _ W).mono ?_;rintro e w1 ⟨rfl,hb⟩;have B1:=Hd (aa B0.o hb);clear hb;go_wp2_with fail;go_ret;exact ⟨rfl,B1.o⟩
theorem Cg (v2:Value) (cx:Ctx) (cr:eH) (Ai:Option Addr) (ni ci:Nat) (L:List Itm) (t:Int) (w:World):
  Calls Tryz.prog 94 #[.agg #[.slice none 0 0,v2],MH cx cr (.slice Ai ni ci), .int .i64 t] w fun e w' =>e= .returned (.bool (rF [] cx cr.n L t))∧Below w.heap.size w w' :=by
 have HE:=Hd (show rF [] cx cr.n L t=false by unfold rF;cases BQ t <;> rfl)
 rw [HE.o];have B0:=Hd (show Below w.heap.size w ((w.alloc (.cells #[.slice none 0 0,v2] 41)).alloc (.cells (gT cx cr (.slice Ai ni ci)) 54)) from ((Below.refl w.heap.size w).alloc (Nat.le_refl _) _).alloc (by simp) _);have V0:=Hd ((Blk.new w #[.slice none 0 0,v2] 41).alloc (.cells (gT cx cr (.slice Ai ni ci)) 54));have C0:=Hd (show iK ((w.alloc (.cells #[.slice none 0 0,v2] 41)).alloc (.cells (gT cx cr (.slice Ai ni ci)) 54)) (w.heap.size+1) cx cr (.slice Ai ni ci) by
  have h:=Blk.new (w.alloc (.cells #[.slice none 0 0,v2] 41)) (gT cx cr (.slice Ai ni ci)) 54;simpa using h)
 cases ht:BQ t with
 | false=>
  obtain ⟨n1,n2,n3,n4,n5,n6⟩:=Il ht;clear ht;go_in;go_wp2_with fail;go_ret;exact ⟨rfl,B0.o⟩
 | true=>
  go_in;go_upto_region 1 with fail;generalize (w.alloc (.cells #[.slice none 0 0,v2] 41)).alloc (.cells (gT cx cr (.slice Ai ni ci)) 54)=W at *;have h6:=Eb ht;clear ht;have c24:=C0.o.ty;have f24:=C0.o.free 24;have C1:=Hd (show iK (W.setCell ⟨w.heap.size+1,24,none⟩ (.int .i64 t)) (w.heap.size+1) { cx with ty:=t } cr (.slice Ai ni ci) by have h:=C0.o.put 24 (.int .i64 t);rw [Ad] at h;exact h);have V1:=Hd (V0.o.af (.int .i64 t) (show w.heap.size≠(⟨w.heap.size+1,24,none⟩:Addr).block by simp));have B1:=Hd (B0.o.setCell (p:=⟨w.heap.size+1,24,none⟩) (by simp) (.int .i64 t));have hl:=BS C1.o;have v0:=V1.o.cell 0;have vv0:=V0.o.cell 0;rcases h6 with rfl | rfl | rfl | rfl | rfl | rfl;all_goals
   go_wp2_with fail;clear hl v0 vv0 c24 f24;refine (Ez 5 _ cr Ai ni ci _).mono ?_;rintro e W2 ⟨rfl,hb⟩;have B2:=Hd (aa B1.o hb);clear hb;go_wp2_with fail;go_ret;exact ⟨rfl,B2.o⟩
end Go.Proofs.YtollifnnpihfdaaGreatDoor
