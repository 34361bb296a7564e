import Derived.Test.YtollifnnpihfdaaGreatDoorG33
set_option maxRecDepth 100000
set_option maxHeartbeats 64000000
set_option linter.all false
namespace Go.Proofs.YtollifnnpihfdaaGreatDoor
open Go.RowKit
def FlP (w:World) (e:Ending) (w' :World):Prop:=∃ a b:Int,e= .returned (flV a b)∧Below w.heap.size w w'
structure DoF (w wr:World) (A:Option Addr) (n c:Nat) (Am:Option Addr) (nm cm:Nat) (ms:List Mt):Prop where
 low:Below w.heap.size w wr
 mts:AtE EMt wr w.heap.size Am ms
 V:Blk wr w.heap.size 31 #[slV A n c,slV Am nm cm]
 U:∃ a b:Int,Blk wr (w.heap.size+1) 44 #[.int .i64 a, .int .i64 b]
 R:Blk wr (w.heap.size+1+1) 44 #[.int .i64 0, .int .i64 0]
theorem Ii (d i:Int) (A:Option Addr) (n c:Nat) (ms:List Mt) (Am:Option Addr) (nm cm:Nat) (hnm:nm=ms.length) (hl:nm≤1000) (w:World) (hm:AtE EMt w w.heap.size Am ms):
  Calls Tryz.prog 194 #[.agg #[slV A n c,slV Am nm cm],flV d i] w (FlP w):=by
 have HNM:=Hd hnm;have HL:=Hd hl;have B0:=ic w #[slV A n c,slV Am nm cm] #[.int .i64 d, .int .i64 i] #[.int .i64 0, .int .i64 0] 31 44 44;have h2:=Blk.new (w.alloc (.cells #[slV A n c,slV Am nm cm] 31)) #[.int .i64 d, .int .i64 i] 44;have h3:=Blk.new ((w.alloc (.cells #[slV A n c,slV Am nm cm] 31)).alloc (.cells #[.int .i64 d, .int .i64 i] 44)) #[.int .i64 0, .int .i64 0] 44;simp only [World.size_alloc] at h2 h3;have S0:=Hd (show DoF w (((w.alloc (.cells #[slV A n c,slV Am nm cm] 31)).alloc (.cells #[.int .i64 d, .int .i64 i] 44)).alloc (.cells #[.int .i64 0, .int .i64 0] 44)) A n c Am nm cm ms from ⟨B0,hm.keep B0 (Nat.le_refl _),((Blk.new w _ _).alloc _).alloc _,⟨d,i,h2.alloc _⟩,h3⟩);clear B0 h2 h3 hm hnm hl;go_in;go_upto_region 1 with fail;generalize ((w.alloc (.cells #[slV A n c,slV Am nm cm] 31)).alloc (.cells #[.int .i64 d, .int .i64 i] 44)).alloc (.cells #[.int .i64 0, .int .i64 0] 44)=w0 at *;go_wp2_with fail;go_loopw [5] (fun ix wr=>∃ k:Nat,k≤nm+1∧ix= .int .i64 k∧Hid (DoF w wr A n c Am nm cm ms)) (fun ix _=>nm+1 - (intOf ix).toNat);case atStart=>exact ⟨0,Nat.zero_le _,rfl,S0⟩
 case round=>
  clear S0;obtain ⟨k,hk,rfl,HS⟩:=hrel;obtain ⟨a,b,hU⟩:=HS.o.U;have HU:=Hd hU;have v0:=HS.o.V.cell 0;have v1:=HS.o.V.cell 1;have u0:=hU.cell 0;have u1:=hU.cell 1;have hl:=HL.o;have WK:=Hd (eB (q:=k) (by omega));clear hU;by_cases hlt:k≤nm;case neg=>
   have k1:¬ (k:Int)≤(nm:Int):=(by omega);go_wp2_with ((with_reducible refine ae ?_ 44 (.tmp 4) (.tmp 24) ?_ HS.o.R #[.int .i64 a, .int .i64 b] ?_ ?_ ?_ ?_ ?_ ?_);(iterate 4 rfl);(exact gK _ _);rfl;(exact dM _ _));refine bodyPost_ret (iJ (fn:=Tryz.f194) rfl _ _ (w.heap.size+1+1) a b rfl (Blk.row HS.o.R _)) rfl ?_;exact ⟨a,b,rfl,ak HS.o.low (by omega) _⟩
  case pos=>
   have k1:(k:Int)≤(nm:Int):=(by omega);go_wp2_with fail;clear v0 v1 u0 u1;refine (KH a b A n c ms Am nm cm HNM.o HL.o wr (HS.o.mts.more HS.o.low.size)).mono ?_;rintro e w2 ⟨rfl,hb⟩;have S2:=Hd (show DoF w w2 A n c Am nm cm ms from ⟨HS.o.low.trans (hb.mono HS.o.low.size),HS.o.mts.keep hb HS.o.low.size,HS.o.V.below hb,⟨a,b,HU.o.below hb⟩,HS.o.R.below hb⟩);have U2:=Hd (HU.o.below hb);clear hb;generalize Jq ms a b=o at *;obtain ⟨x,o⟩:=o;cases o with
   | true=>
    have hgx:=aJ w2 (w.heap.size+1) #[.int .i64 x, .int .i64 1];have S3:=Hd (show DoF w (w2.setRow (w.heap.size+1) #[.int .i64 x, .int .i64 1]) A n c Am nm cm ms from
     ⟨ak S2.o.low (by omega) _,S2.o.mts.keep ((Below.refl w.heap.size w2).grown hgx S2.o.low.size (fun q e=>by injection e with e;omega)) (Nat.le_refl _),S2.o.V.aS _ (by omega),⟨x,1,U2.o.row _⟩,S2.o.R.aS _ (by omega)⟩)
    clear hgx;obtain ⟨wk1,wk2⟩:=WK.o;go_wp2_with ((with_reducible refine ae ?_ 44 (.tmp 3) (.tmp 23) ?_ U2.o #[.int .i64 x, .int .i64 1] ?_ ?_ ?_ ?_ ?_ ?_);(iterate 4 rfl);(exact gK _ _);rfl;(exact dM _ _));clear wk1 wk2;go_roundw;case rel=>exact ⟨k+1,by omega,rfl,S3⟩
    case measure=>exact bq (by omega) _ rfl
   | false=>
    obtain ⟨wk1,wk2⟩:=WK.o;go_wp2_with fail;clear wk1 wk2;go_roundw;case rel=>exact ⟨k+1,by omega,rfl,S2⟩
    case measure=>exact bq (by omega) _ rfl
structure UpS (w wr:World) (A:Option Addr) (n c:Nat) (ds:List Dm) (Am:Option Addr) (nm cm:Nat) (ms:List Mt) (d i:Int):Prop where
 f:SrF w wr A n c ds Am nm cm ms d i
 R:Blk wr (w.heap.size+1+1) 44 #[.int .i64 0, .int .i64 0]
section
variable {w wr w' :World} {A Am:Option Addr} {n c nm cm:Nat} {ds:List Dm} {ms:List Mt} {d i:Int}
theorem UpS.grow (h:UpS w wr A n c ds Am nm cm ms d i) (hb:Below wr.heap.size wr w'):UpS w w' A n c ds Am nm cm ms d i:=⟨h.f.grow hb,h.R.below hb⟩
theorem UpS.alloc (h:UpS w wr A n c ds Am nm cm ms d i) (o:Obj):UpS w (wr.alloc o) A n c ds Am nm cm ms d i:=h.grow ((Below.refl _ _).alloc (Nat.le_refl _) _)
theorem UpS.start (w:World) (hf:bR w w.heap.size A ds) (hm:AtE EMt w w.heap.size Am ms):UpS w (((w.alloc (.cells #[slV A n c,slV Am nm cm] 31)).alloc (.cells #[.int .i64 d, .int .i64 i] 44)).alloc (.cells #[.int .i64 0, .int .i64 0] 44)) A n c ds Am nm cm ms d i:=by
 have h3:=Blk.new ((w.alloc (.cells #[slV A n c,slV Am nm cm] 31)).alloc (.cells #[.int .i64 d, .int .i64 i] 44)) #[.int .i64 0, .int .i64 0] 44;simp only [World.size_alloc] at h3;exact ⟨(SrF.start w hf hm).alloc _,h3⟩
theorem UpS.fin (h:UpS w wr A n c ds Am nm cm ms d i) (a b:Int):FlP w (.returned (flV a b)) (wr.setRow (w.heap.size+1+1) #[.int .i64 a, .int .i64 b]):=⟨a,b,rfl,ak h.f.low (by omega) _⟩
end
theorem xc (d i:Int) (ds:List Dm) (A:Option Addr) (n c:Nat) (hn:n=ds.length) (ms:List Mt) (Am:Option Addr) (nm cm:Nat) (hnm:nm=ms.length) (hl:nm≤1000) (w:World) (hf:bR w w.heap.size A ds) (hm:AtE EMt w w.heap.size Am ms) (hno:¬ (dz (ds.map Dm.dv) d i=true∧i=1∧∃ x,onF ms d=some x)):
  Calls Tryz.prog 195 #[.agg #[slV A n c,slV Am nm cm],flV d i] w (FlP w):=by
 have HNO:=Hd hno;clear hno;have HN:=Hd hn;have HNM:=Hd hnm;have HL:=Hd hl;have S0:=Hd (UpS.start (n:=n) (c:=c) (nm:=nm) (cm:=cm) (d:=d) (i:=i) w hf hm);clear hf hm hn hnm hl;go_in;go_upto_region 1 with fail;generalize ((w.alloc (.cells #[slV A n c,slV Am nm cm] 31)).alloc (.cells #[.int .i64 (d), .int .i64 (i)] 44)).alloc (.cells #[.int .i64 0, .int .i64 0] 44)=w0 at *;have v0:=S0.o.f.V.cell 0;have v1:=S0.o.f.V.cell 1;have u0:=S0.o.f.U.cell 0;have u1:=S0.o.f.U.cell 1;go_wp2_with fail;clear v0 v1 u0 u1;refine (fG d i ds A n c HN.o w0 S0.o.f.files).mono ?_;intro e w1 hp;cases hq:aG (ds.map Dm.dv) d i with
 | none=>
  rw [hq] at hp;obtain ⟨rfl,hb⟩:=hp;have S2:=Hd ((S0.o.grow hb).alloc (.cells ndZ 145));clear hb hq S0;go_wp2_with ((with_reducible refine ae ?_ 44 (.tmp 4) (.tmp 23) ?_ S2.o.R #[.int .i64 (0), .int .i64 (0)] ?_ ?_ ?_ ?_ ?_ ?_);(iterate 4 rfl);(exact gK _ _);rfl;(exact dM _ _));refine bodyPost_ret (iJ (fn:=Tryz.f195) rfl _ _ (w.heap.size+1+1) (0) (0) rfl (Blk.row S2.o.R _)) rfl ?_;exact S2.o.fin _ _
 | some nd=>
  have HDI:=Hd (show dz (ds.map Dm.dv) d i=(nd.kind == 2) by unfold dz;rw [hq]);rw [hq] at hp;obtain ⟨A2,c2,rfl,ho,hb,hsz⟩:=hp;have S2:=Hd ((S0.o.grow hb).alloc (.cells (ndC nd (.slice A2 nd.es.length c2)) 145));have D2:=Hd (Blk.new w1 (ndC nd (.slice A2 nd.es.length c2)) 145);clear ho hb hsz S0;go_upto_region 2 with fail;generalize w1.alloc (.cells (ndC nd (.slice A2 nd.es.length c2)) 145)=w2 at *;have d1:=D2.o.cell 1;have d5:=D2.o.cell 5;have v0:=S2.o.f.V.cell 0;have v1:=S2.o.f.V.cell 1;have u0:=S2.o.f.U.cell 0;have u1:=S2.o.f.U.cell 1;clear hq;by_cases hk:nd.kind=2;case neg=>
   have p2:=(bT hk).2;clear hk;go_wp2_with ((with_reducible refine ae ?_ 44 (.tmp 4) (.tmp 23) ?_ S2.o.R #[.int .i64 (0), .int .i64 (0)] ?_ ?_ ?_ ?_ ?_ ?_);(iterate 4 rfl);(exact gK _ _);rfl;(exact dM _ _));refine bodyPost_ret (iJ (fn:=Tryz.f195) rfl _ _ (w.heap.size+1+1) (0) (0) rfl (Blk.row S2.o.R _)) rfl ?_;exact S2.o.fin _ _
  case pos=>
   have p2:=(dY hk).2;have Rn:=HDI.o.trans (dY hk).1;clear hk;by_cases hi:i=1;case neg=>
    have p3:=(bT hi).2;clear hi;go_wp2_with ((with_reducible refine ae ?_ 44 (.tmp 4) (.tmp 31) ?_ S2.o.R #[.int .i64 (d), .int .i64 (nd.par)] ?_ ?_ ?_ ?_ ?_ ?_);(iterate 4 rfl);(exact gK _ _);rfl;(exact dM _ _));refine bodyPost_ret (iJ (fn:=Tryz.f195) rfl _ _ (w.heap.size+1+1) (d) (nd.par) rfl (Blk.row S2.o.R _)) rfl ?_;exact S2.o.fin _ _
   case pos=>
    have p3:=(dY hi).2;have HON:=Hd (show onF ms d=none by
     cases ho:onF ms d with
     | none=>rfl
     | some x=>exact absurd ⟨Rn,hi,x,ho⟩ HNO.o)
    clear hi Rn HNO;go_wp2_with fail;clear v0 v1 u0 u1;clear d1 d5 p2 p3;refine (ron d A n c ms Am nm cm HNM.o HL.o w2 S2.o.f.bN).mono ?_;rintro e w3 ⟨rfl,hb⟩;rw [wZ HON.o];have S4:=Hd ((S2.o.grow hb).alloc (.cells #[.int .i64 0, .int .i64 0] 44));clear hb;go_upto_region 9 with fail;generalize w3.alloc (.cells #[.int .i64 0, .int .i64 0] 44)=w4 at *;have v0:=S4.o.f.V.cell 0;have v1:=S4.o.f.V.cell 1;have u0:=S4.o.f.U.cell 0;have u1:=S4.o.f.U.cell 1;go_wp2_with ((with_reducible refine ae ?_ 44 (.tmp 4) (.tmp 43) ?_ S4.o.R #[.int .i64 (d), .int .i64 (i)] ?_ ?_ ?_ ?_ ?_ ?_);(iterate 4 rfl);(exact gK _ _);rfl;(exact dM _ _));refine bodyPost_ret (iJ (fn:=Tryz.f195) rfl _ _ (w.heap.size+1+1) (d) (i) rfl (Blk.row S4.o.R _)) rfl ?_;exact S4.o.fin _ _
theorem Ij (ds:List Dm) (A:Option Addr) (n c:Nat) (hn:n=ds.length) (ms:List Mt) (Am:Option Addr) (nm cm:Nat) (hnm:nm=ms.length) (hl:nm≤1000) {k:Nat} {d i:Int} {L:List ByteArray} (h:mq (ds.map Dm.dv) ms k d i L):
  ∀ (w:World),bR w w.heap.size A ds→AtE EMt w w.heap.size Am ms→Calls Tryz.prog 195 #[.agg #[slV A n c,slV Am nm cm],flV d i] w (FlP w):=by
 induction h with
 | top h1 h2=>exact fun w hf hm=>xc 0 1 ds A n c hn ms Am nm cm hnm hl w hf hm (fun ⟨_,_,x,hx⟩=>by rw [h1] at hx;cases hx)
 | step _ _ h3 _ _ _=>exact fun w hf hm=>xc _ _ ds A n c hn ms Am nm cm hnm hl w hf hm (fun ⟨_,h,_⟩=>h3 h)
 | @over h' dev a b L h1 h0 h2 _ ih=>
  intro w hf hm;obtain ⟨nd,hq,hk⟩:=mh h1;have HQ:=Hd hq;have p2:=(dY hk).2;have HON:=Hd (wY h2);clear hq hk h1 h0 h2;have HN:=Hd hn;have HNM:=Hd hnm;have HL:=Hd hl;have S0:=Hd (UpS.start (n:=n) (c:=c) (nm:=nm) (cm:=cm) (d:=dev) (i:=1) w hf hm);clear hf hm hn hnm hl;go_in;go_upto_region 1 with fail;generalize ((w.alloc (.cells #[slV A n c,slV Am nm cm] 31)).alloc (.cells #[.int .i64 (dev), .int .i64 (1)] 44)).alloc (.cells #[.int .i64 0, .int .i64 0] 44)=w0 at *;have v0:=S0.o.f.V.cell 0;have v1:=S0.o.f.V.cell 1;have u0:=S0.o.f.U.cell 0;have u1:=S0.o.f.U.cell 1;go_wp2_with fail;clear v0 v1 u0 u1;refine (fG dev 1 ds A n c HN.o w0 S0.o.f.files).mono ?_;intro e w1 hp;rw [HQ.o] at hp;obtain ⟨A2,c2,rfl,ho,hb,hsz⟩:=hp;have S2:=Hd ((S0.o.grow hb).alloc (.cells (ndC nd (.slice A2 nd.es.length c2)) 145));have D2:=Hd (Blk.new w1 (ndC nd (.slice A2 nd.es.length c2)) 145);clear ho hb hsz S0;go_upto_region 2 with fail;generalize w1.alloc (.cells (ndC nd (.slice A2 nd.es.length c2)) 145)=w2 at *;have d1:=D2.o.cell 1;have d5:=D2.o.cell 5;have v0:=S2.o.f.V.cell 0;have v1:=S2.o.f.V.cell 1;have u0:=S2.o.f.U.cell 0;have u1:=S2.o.f.U.cell 1;go_wp2_with fail;clear v0 v1 u0 u1;clear d1 d5 p2;refine (ron dev A n c ms Am nm cm HNM.o HL.o w2 S2.o.f.bN).mono ?_;rintro e w3 ⟨rfl,hb⟩;rw [HON.o];have S4:=Hd ((S2.o.grow hb).alloc (.cells #[.int .i64 a, .int .i64 b] 44));have O4:=Hd (Blk.new w3 #[.int .i64 a, .int .i64 b] 44);clear hb;go_upto_region 8 with fail;generalize w3.alloc (.cells #[.int .i64 a, .int .i64 b] 44)=w4 at *;have v0:=S4.o.f.V.cell 0;have v1:=S4.o.f.V.cell 1;have u0:=S4.o.f.U.cell 0;have u1:=S4.o.f.U.cell 1;have o0:=O4.o.cell 0;have o1:=O4.o.cell 1;go_wp2_with fail;clear v0 v1 u0 u1;clear o0 o1;refine (ih w4 S4.o.f.files S4.o.f.bN).mono ?_;rintro e w5 ⟨x,y,rfl,hb⟩;have S5:=Hd (S4.o.grow hb);clear hb S4 O4;go_wp2_with ((with_reducible refine ae ?_ 44 (.tmp 4) (.tmp 42) ?_ S5.o.R #[.int .i64 (x), .int .i64 (y)] ?_ ?_ ?_ ?_ ?_ ?_);(iterate 4 rfl);(exact gK _ _);rfl;(exact dM _ _));refine bodyPost_ret (iJ (fn:=Tryz.f195) rfl _ _ (w.heap.size+1+1) (x) (y) rfl (Blk.row S5.o.R _)) rfl ?_;exact S5.o.fin _ _
theorem rup (d i:Int) (ds:List Dm) (A:Option Addr) (n c:Nat) (hn:n=ds.length) (ms:List Mt) (Am:Option Addr) (nm cm:Nat) (hnm:nm=ms.length) (hl:nm≤1000) (hok:SOk (ds.map Dm.dv) ms) (w:World) (hf:bR w w.heap.size A ds) (hm:AtE EMt w w.heap.size Am ms):
  Calls Tryz.prog 195 #[.agg #[slV A n c,slV Am nm cm],flV d i] w (FlP w):=by
 cases hd:dz (ds.map Dm.dv) d i with
 | false=>exact xc d i ds A n c hn ms Am nm cm hnm hl w hf hm (fun ⟨h,_⟩=>by rw [hd] at h;cases h)
 | true=>
  cases ho:onF ms d with
  | none=>exact xc d i ds A n c hn ms Am nm cm hnm hl w hf hm (fun ⟨_,_,x,h⟩=>by rw [ho] at h;cases h)
  | some x=>
   obtain ⟨a,b⟩:=x;obtain ⟨L,k,h1,_⟩:=hok.KD (AY ho) hd;exact Ij ds A n c hn ms Am nm cm hnm hl h1 w hf hm
theorem KY (A:Option Addr) (n c:Nat) (ms:List Mt) (Am:Option Addr) (nm cm:Nat) (hnm:nm=ms.length) (hl:nm≤1000) (w:World) (hm:AtE EMt w w.heap.size Am ms):
  Calls Tryz.prog 193 #[.agg #[slV A n c,slV Am nm cm]] w (FlP w):=by
 have B0:=Hd (dI w #[slV A n c,slV Am nm cm] #[.int .i64 0, .int .i64 0] 31 44);have HD:=Hd (Ii 0 1 A n c ms Am nm cm hnm hl _ (hm.below B0.o));have R0:=Hd (show Blk ((w.alloc (.cells #[slV A n c,slV Am nm cm] 31)).alloc (.cells #[.int .i64 0, .int .i64 0] 44)) (w.heap.size+1) 44 #[.int .i64 0, .int .i64 0] by
  have h:=Blk.new (w.alloc (.cells #[slV A n c,slV Am nm cm] 31)) #[.int .i64 0, .int .i64 0] 44;simp only [World.size_alloc] at h;exact h)
 clear hm hnm hl;go_in;go_wp2_with fail;refine HD.o.mono ?_;rintro e w1 ⟨a,b,rfl,hb⟩;have R1:=Hd (R0.o.below hb);have B1:=Hd (B0.o.trans (hb.mono B0.o.size));clear hb HD R0;go_wp2_with ((with_reducible refine ae ?_ 44 (.tmp 2) (.tmp 5) ?_ R1.o #[.int .i64 a, .int .i64 b] ?_ ?_ ?_ ?_ ?_ ?_);(iterate 4 rfl);(exact gK _ _);rfl;(exact dM _ _));refine bodyPost_ret (iJ (fn:=Tryz.f193) rfl _ _ (w.heap.size+1) a b rfl (Blk.row R1.o _)) rfl ?_;exact ⟨a,b,rfl,ak B1.o (by omega) _⟩
structure Fo where
 dd:Int
 di:Int
 nm:ByteArray
 fd:Int
 fi:Int
 ex:Bool
 sl:Bool
 pa:ByteArray
abbrev foC (x:Fo):Array Value:=#[.int .i64 x.dd, .int .i64 x.di, .string x.nm, .int .i64 x.fd, .int .i64 x.fi, .bool x.ex, .bool x.sl, .string x.pa]
def zFo:Fo:=⟨0,0,⟨#[]⟩,0,0,false,false,⟨#[]⟩⟩
theorem iV (x:Fo):(Tryz.prog.info? 223).map (·.size)=some (foC x).size:=by show _=some 8;kernel_rfl
theorem eO (x:Fo):(foC x).all (·.oneCell')=true:=by simp [Value.oneCell']
theorem fE {fn:Func} {i j:Nat} (h:fn.results=#[.cell i 223, .tmp j]) (tmps:Array Value) (w:World) (g:Nat) (x:Fo) (hp:tmps.getD i undef= .pointer (some ⟨g,0,none⟩)) (hg:Blk w g 223 (foC x)):
  (results fn tmps).run Tryz.prog w= .ok (.tuple #[.agg (foC x),tmps.getD j undef]) w:=by
 have hp' :tmps[i]?.getD undef= .pointer (some ⟨g,0,none⟩):=by simpa using hp
 simp [results,h,hp',asAddr,run_loadVar_row w g 223 223 (foC x) (0,0) _ hg Tryz.underlying223 rfl (iV x)]
def kD:El ByteArray where
 C s:= [.string s]
 e:=9
 sl:=49
 sz:=1
 bs:=16
 len _:=rfl
 one x u hu:=by simp at hu;rw [hu];rfl
 pos:=by omega
 small:=by omega
 hu:=Tryz.underlying49
 info:=by
  obtain ⟨i0,h1,h2,h3,h4⟩:=info_parts Tryz.JR;exact ⟨i0,_,h1,h2,h3,h4,rfl⟩
theorem qG {w:World} {base:Nat} {v:Value} {L:List ByteArray} (h:bF w base v L):ax kD w base v L:=by
 have e:∀ M:List ByteArray,M.flatMap kD.C=M.map Value.string:=fun M=>by
  induction M with
  | nil=>rfl
  | cons a r ih=>rw [List.flatMap_cons,List.map_cons,ih];rfl
 unfold ax;unfold bF at h;rw [e];exact h
theorem fU {w:World} {a:Addr} {s:ByteArray} (h:∀ j,j < 1→w.cell? (a.add j)=(kD.C s)[j]?):w.cell? a=some (.string s):=h 0 (by omega)
structure PiF (wr:World) (gd go:Nat) (A:Option Addr) (c:Nat) (L:List ByteArray):Prop where
 at_:AtE kD wr wr.heap.size A L
 far:∀ ad,A=some ad→ad.block≠gd∧ad.block≠go
 cap:L.length≤c
 siz:∀ x∈L,x.size≤128
theorem PiF.below {wr w' :World} {gd go c:Nat} {A:Option Addr} {L:List ByteArray} (h:PiF wr gd go A c L) (hb:Below wr.heap.size wr w'):PiF w' gd go A c L:=⟨h.at_.below hb,h.far,h.cap,h.siz⟩
theorem PiF.row {wr:World} {gd go c k:Nat} {A:Option Addr} {L:List ByteArray} (h:PiF wr gd go A c L) (hk:k=gd∨k=go) (cs:Array Value):PiF (wr.setRow k cs) gd go A c L:=by
 refine ⟨fun q hq=>?_,h.far,h.cap,h.siz⟩;obtain ⟨ad,e,hl,hc⟩:=h.at_ q hq;refine ⟨ad,e,by rw [setRow_size];exact hl,fun j hj=>?_⟩;rw [← hc j hj];refine World.cell?_of_block (setRow_other wr k _ cs ?_);rw [aj,aj];have:=h.far ad e;rcases hk with rfl | rfl
 · exact this.1
 · exact this.2
theorem PiF.nil (wr:World) (gd go c:Nat) (A:Option Addr) (h:∀ ad,A=some ad→ad.block≠gd∧ad.block≠go):PiF wr gd go A c []:=⟨AtE.nil,h,Nat.zero_le _,fun x hx=>by cases hx⟩
theorem PiF.tail {wr:World} {gd go c:Nat} {a:Addr} {x:ByteArray} {L:List ByteArray} (h:PiF wr gd go (some a) c (x :: L)):PiF wr gd go (some (a.add 1)) (c - 1) L:=by
 refine ⟨fun q hq=>?_,fun ad e=>?_,by have:=h.cap;rw [List.length_cons] at this;omega,fun y hy=>h.siz y (List.mem_cons_of_mem _ hy)⟩
 · obtain ⟨ad,e,hl,hc⟩:=h.at_ (q+1) (by simpa using hq);injection e with e;subst e;refine ⟨a.add 1,rfl,by rw [aj];exact hl,fun j hj=>?_⟩;have:=hc j hj;rw [Addr.add_add] at this ⊢;rw [Addr.add_add];have e2:1+(q * kD.sz+j)=(q+1) * kD.sz+j:=(by show 1+(q * 1+j)=(q+1) * 1+j;omega);rw [e2];exact this
 · injection e with e;subst e;rw [aj];exact h.far a rfl
theorem PiF.own {wr:World} {base gd go c n:Nat} {A:Option Addr} {L:List ByteArray} (h:ax kD wr base (.slice A n c) L) (hb:∀ q,(Value.slice A n c).ownBlock=some q→q≠gd∧q≠go) (hs:∀ x∈L,x.size≤128):PiF wr gd go A c L∧n=L.length:=by
 rcases Joins.ownsRow_forms h with ⟨e,e0⟩ | ⟨g,cap,e⟩
 · injection e with e1 e2 e3;have:L= []:=List.eq_nil_of_length_eq_zero e0;subst this;subst e1;exact ⟨PiF.nil _ _ _ _ _ (fun _ e=>by cases e),e2⟩
 · injection e with e1 e2 e3;subst e1;refine ⟨⟨bB h,fun ad e=>?_,?_,hs⟩,e2⟩
   · injection e with e;subst e;exact hb g rfl
   · rcases h.2 with ⟨e,_⟩ | ⟨g1,c1,NK,e,_,_,h2,_⟩
     · cases e
     · injection e with _ _ e;subst e;exact h2
structure FdF (w wr:World) (A:Option Addr) (n c:Nat) (ds:List Dm) (Am:Option Addr) (nm cm:Nat) (ms:List Mt) (d i:Int):Prop where
 f:SrF w wr A n c ds Am nm cm ms d i
 R:Blk wr (w.heap.size+1+1) 223 (foC zFo)
section
variable {w wr w' :World} {A Am:Option Addr} {n c nm cm gd go:Nat} {ds:List Dm} {ms:List Mt} {d i:Int}
theorem FdF.grow (h:FdF w wr A n c ds Am nm cm ms d i) (hb:Below wr.heap.size wr w'):FdF w w' A n c ds Am nm cm ms d i:=⟨h.f.grow hb,h.R.below hb⟩
theorem FdF.alloc (h:FdF w wr A n c ds Am nm cm ms d i) (o:Obj):FdF w (wr.alloc o) A n c ds Am nm cm ms d i:=h.grow ((Below.refl _ _).alloc (Nat.le_refl _) _)
theorem FdF.row (h:FdF w wr A n c ds Am nm cm ms d i) {k:Nat} (hk:w.heap.size+1+1 < k) (cs:Array Value):FdF w (wr.setRow k cs) A n c ds Am nm cm ms d i:=by
 have hgx:=aJ wr k cs;have hb:Below (w.heap.size+1+1+1) wr (wr.setRow k cs):=(Below.refl _ wr).grown hgx (by have:=h.R.lt;omega) (fun q e=>by injection e with e;omega);exact ⟨⟨ak h.f.low (by omega) cs,h.f.src.keep hb (by omega),h.f.mts.keep hb (by omega),h.f.V.keep hb (by omega),h.f.U.keep hb (by omega)⟩,h.R.keep hb (by omega)⟩
def FoP (w:World) (e:Ending) (w' :World):Prop:=∃ (x:Fo) (k:Int),e= .returned (.tuple #[.agg (foC x), .int .i64 k])∧x.nm.size≤12∧x.pa.size≤640∧Below w.heap.size w w'
theorem FdF.err (h:FdF w wr A n c ds Am nm cm ms d i) (k:Int):FoP w (.returned (.tuple #[.agg (foC zFo), .int .i64 k])) (wr.setRow (w.heap.size+1+1) (foC zFo)):=⟨zFo,k,rfl,Nat.zero_le _,Nat.zero_le _,ak h.f.low (by omega) _⟩
structure FiF (w wr:World) (A:Option Addr) (n c:Nat) (ds:List Dm) (Am:Option Addr) (nm cm:Nat) (ms:List Mt) (d i:Int) (gd go:Nat):Prop where
 f:FdF w wr A n c ds Am nm cm ms d i
 D:∃ a b:Int,Blk wr gd 44 #[.int .i64 a, .int .i64 b]
 O:∃ x:Fo,Blk wr go 223 (foC x)∧x.nm.size≤12∧x.pa=⟨#[]⟩
 h1:w.heap.size+1+1 < gd
 h2:gd < go
theorem FiF.grow (h:FiF w wr A n c ds Am nm cm ms d i gd go) (hb:Below wr.heap.size wr w'):FiF w w' A n c ds Am nm cm ms d i gd go:=by
 obtain ⟨a,b,hD⟩:=h.D;obtain ⟨x,hO,hx⟩:=h.O;exact ⟨h.f.grow hb,⟨a,b,hD.below hb⟩,⟨x,hO.below hb,hx⟩,h.h1,h.h2⟩
theorem FiF.alloc (h:FiF w wr A n c ds Am nm cm ms d i gd go) (o:Obj):FiF w (wr.alloc o) A n c ds Am nm cm ms d i gd go:=h.grow ((Below.refl _ _).alloc (Nat.le_refl _) _)
theorem FiF.dir (h:FiF w wr A n c ds Am nm cm ms d i gd go) (a b:Int):FiF w (wr.setRow gd #[.int .i64 a, .int .i64 b]) A n c ds Am nm cm ms d i gd go:=by
 obtain ⟨_,_,hD⟩:=h.D;obtain ⟨x,hO,hx⟩:=h.O;have h1:=h.h1;have h2:=h.h2;exact ⟨h.f.row h1 _,⟨a,b,hD.row _⟩,⟨x,hO.aS _ (by omega),hx⟩,h1,h2⟩
theorem FiF.o (h:FiF w wr A n c ds Am nm cm ms d i gd go) (x:Fo) (hx:x.nm.size≤12∧x.pa=⟨#[]⟩):FiF w (wr.setRow go (foC x)) A n c ds Am nm cm ms d i gd go:=by
 obtain ⟨a,b,hD⟩:=h.D;obtain ⟨_,hO,_⟩:=h.O;have h1:=h.h1;have h2:=h.h2;exact ⟨h.f.row (by omega) _,⟨a,b,hD.aS _ (by omega)⟩,⟨x,hO.row _,hx⟩,h1,h2⟩
end
theorem FdF.only {w wr w' :World} {A Am:Option Addr} {n c nm cm:Nat} {ds:List Dm} {ms:List Mt} {d i:Int} (h:FdF w wr A n c ds Am nm cm ms d i) {k:Nat} (hk:w.heap.size+1+1 < k) (hg:wr.grownBy w' (some k)):FdF w w' A n c ds Am nm cm ms d i:=by
 have hb:Below (w.heap.size+1+1+1) wr w' :=(Below.refl _ wr).grown hg (by have:=h.R.lt;omega) (fun q e=>by injection e with e;omega);exact ⟨⟨h.f.low.trans (hb.mono (by omega)),h.f.src.keep hb (by omega),h.f.mts.keep hb (by omega),h.f.V.keep hb (by omega),h.f.U.keep hb (by omega)⟩,h.R.keep hb (by omega)⟩
section
variable {w wr w' :World} {A Am:Option Addr} {n c nm cm gd go:Nat} {ds:List Dm} {ms:List Mt} {d i:Int}
theorem FiF.Tt (h:FiF w wr A n c ds Am nm cm ms d i gd go) (hg:wr.grownBy w' (some gd)) {a b:Int} (hD:Blk w' gd 44 #[.int .i64 a, .int .i64 b]):FiF w w' A n c ds Am nm cm ms d i gd go:=by
 obtain ⟨x,hO,hx⟩:=h.O;have h1:=h.h1;have h2:=h.h2;exact ⟨h.f.only h1 hg,⟨a,b,hD⟩,⟨x,hO.grown hg (fun e=>by injection e with e;omega),hx⟩,h1,h2⟩
theorem PiF.only {A:Option Addr} {c k:Nat} {L:List ByteArray} (h:PiF wr gd go A c L) (hk:k=gd∨k=go) (hg:wr.grownBy w' (some k)):PiF w' gd go A c L:=by
 refine ⟨fun q hq=>?_,h.far,h.cap,h.siz⟩;obtain ⟨ad,e,hl,hc⟩:=h.at_ q hq;refine ⟨ad,e,Nat.lt_of_lt_of_le hl hg.size,fun j hj=>?_⟩;rw [← hc j hj];refine World.cell?_of_block (hg.block _ (by rw [aj,aj];exact hl) ?_);rw [aj,aj];have:=h.far ad e;intro e2;injection e2 with e2;rcases hk with rfl | rfl
 · exact this.1 e2
 · exact this.2 e2
end
def Em:Value→Nat | .slice _ n _=>n | _=>0
def bZ (w:World) (base:Nat) (v:Value) (L:List Rc):Prop:=∃ xs:List Rm,xs.map (·.r)=L∧ax ER w base v xs∧∀ x∈xs,ax EP w base x.sl x.r.ps
section
variable {w w' :World} {base:Nat} {v v' :Value} {L:List Rc}
theorem bZ.nil (w:World) (base:Nat):bZ w base (.slice none 0 0) []:=⟨[],rfl,ax.nil _ _,fun _ h=>by cases h⟩
theorem bZ.below (h:bZ w base v L) (hb:Below w.heap.size w w'):bZ w' base v L:=by
 obtain ⟨xs,e,ho,hp⟩:=h;exact ⟨xs,e,ho.below hb,fun x hx=>(hp x hx).below hb⟩
theorem bZ.cell (h:bZ w base v L) {g i:Nat} {t:TypeId} {cs:Array Value} (hg:Blk w g t cs) (h1:(77:Nat)≠t) (h2:(79:Nat)≠t) (u:Value):bZ (w.setCell ⟨g,i,none⟩ u) base v L:=by
 obtain ⟨xs,e,ho,hp⟩:=h;exact ⟨xs,e,ho.bD (ay ho hg h1) u,fun x hx=>(hp x hx).bD (ay (hp x hx) hg h2) u⟩
theorem bZ.app (h:bZ w base v L) (x:Rm) {xs:List Rm} (e:xs.map (·.r)=L) (ho:ax ER w base v xs) (hp:∀ x∈xs,ax EP w base x.sl x.r.ps) (hx:ax EP w base x.sl x.r.ps) (hn:ax ER w' base v' (xs ++ [x])) (hg:w.grownBy w' v.ownBlock):bZ w' base v' (L ++ [x.r]):=by
 refine ⟨xs ++ [x],by rw [List.map_append,e];rfl,hn,fun y hy=>?_⟩;have k:∀ {y:Rm},ax EP w base y.sl y.r.ps→ax EP w' base y.sl y.r.ps:=fun {y} hy=>hy.far hg (fun k e r=>aH hy ho (show (79:Nat)≠77 by decide) k e r);rcases List.mem_append.1 hy with hy | hy
 · exact k (hp y hy)
 · rw [List.mem_singleton.1 hy];exact k hx
end
structure Mk where
 A:Option Addr
 n:Nat
 c:Nat
 v2:Value
 cx:Ctx
 r:aN
 Ai:Option Addr
 ni:Nat
 ci:Nat
 ti:Int
 rs:List Ru
 is:List (Itm×aD)
def Mk.C (m:Mk) (v:Value):Array Value:=#[.slice m.A m.n m.c,m.v2, .int .i64 m.cx.ph, .int .i64 (m.cx.p 0), .int .i64 (m.cx.p 1), .int .i64 (m.cx.p 2), .int .i64 (m.cx.p 3), .int .i64 (m.cx.p 4), .int .i64 (m.cx.p 5), .int .i64 (m.cx.p 6), .int .i64 (m.cx.p 7), .int .i64 m.r.d, .int .i64 m.r.i, .string m.cx.comm, .string m.cx.exe,m.r.o.v, .bool m.r.u, .int .i64 m.r.n, .int .i64 (m.cx.a 0), .int .i64 (m.cx.a 1), .int .i64 (m.cx.a 2), .int .i64 (m.cx.a 3),m.r.ps.v,m.r.gs.v, .int .i64 m.cx.ex, .slice m.Ai m.ni m.ci, .int .i64 m.cx.ty, .int .i64 m.ti,v]
abbrev Mk.X (m:Mk):Array Value:=aV m.cx m.r (.slice m.Ai m.ni m.ci)
abbrev Mk.P (m:Mk):Array Value:=#[.slice m.A m.n m.c,m.v2]
def Mk.ex (m:Mk) (t:Int):Bool:=kg (m.rs.map (·.r)) m.cx m.r.n (m.is.map (·.1)) t
theorem Mk.Bg (m:Mk) (t:Int):m.ex t=kg (m.rs.map (·.r)) m.cx m.r.n (m.is.map (·.1)) t:=rfl
theorem Mk.list (m:Mk) (v:Value):(m.C v).toList= [.slice m.A m.n m.c,m.v2] ++ (m.X.toList ++ [.int .i64 m.ti,v]):=rfl
theorem Mk.sub (m:Mk) (v:Value) (j:Nat) (u:Value) (h:m.X.toList[j]? =some u):(m.C v)[2+j]? =some u:=by
 rw [← Array.getElem?_toList,m.list,List.getElem?_append_right (by simp)];have hj:j < m.X.toList.length:=(List.getElem?_eq_some_iff.1 h).1;rw [List.getElem?_append_left (by simpa using hj)];simpa using h
theorem Mk.c27 (m:Mk) (v:Value):(m.C v)[27]? =some (.int .i64 m.ti):=rfl
theorem Mk.c28 (m:Mk) (v:Value):(m.C v)[28]? =some v:=rfl
theorem Mk.set (m:Mk) (v u:Value):(m.C v).setIfInBounds 28 u=m.C u:=rfl
structure Mk.Ok (m:Mk):Prop where
 hn:m.n=m.rs.length
 hi:m.ni=m.is.length
 few:m.ni≤1000
structure EvG (m:Mk) (w:World) (base g:Nat) (L:List Rc):Prop where
 blk:∃ v,Blk w g 124 (m.C v)∧bZ w base v L
 hg:base≤g
 rules:jr w base m.A m.rs
 items:aU w base m.Ai m.is
 ok:m.Ok
 few:L.length≤2000
def kX (m:Mk) (L:List Rc) (t:Int) (ps:List Pr):List Rc:=if m.ex t=true then L else L ++ [⟨t,m.ti,0,ps⟩]
section
variable {m:Mk} {w w' :World} {base g:Nat} {L:List Rc}
theorem EvG.below (h:EvG m w base g L) (hb:Below w.heap.size w w'):EvG m w' base g L:=by
 obtain ⟨v,h1,h2⟩:=h.blk;have hl:base≤w.heap.size:=Nat.le_trans h.hg (Nat.le_of_lt h1.lt);exact ⟨⟨v,h1.below hb,h2.below hb⟩,h.hg,h.rules.keep hb hl,h.items.keep hb hl,h.ok,h.few⟩
theorem EvG.lt (h:EvG m w base g L):g < w.heap.size:=by
 obtain ⟨v,h1,_⟩:=h.blk;exact h1.lt
end
theorem FT {m:Mk} {w:World} {g:Nat} {v:Value} (h:Blk w g 124 (m.C v)):(loadVar 54 ⟨g,2,none⟩).run Tryz.prog w= .ok (.agg m.X) w:=
 oP (fun j u hu=>by rw [Kk,h.cell];exact m.sub v j u hu) Tryz.underlying54 rfl (dK _ _ _)
theorem Lh {m:Mk} {w:World} {g:Nat} {v:Value} (h:Blk w g 124 (m.C v)):(loadVar 41 ⟨g,0,none⟩).run Tryz.prog w= .ok (.agg m.P) w:=
 oP (fun j u hu=>by
  rw [Kk,h.cell]
  match j with
  | 0=>simp at hu;subst hu;rfl
  | 1=>simp at hu;subst hu;rfl
  | j+2=>simp at hu) Tryz.underlying41 rfl (by show _=some 2;kernel_rfl)
end Go.Proofs.YtollifnnpihfdaaGreatDoor
