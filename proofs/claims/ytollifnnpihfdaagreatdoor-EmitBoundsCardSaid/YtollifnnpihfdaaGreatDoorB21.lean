import Derived.Test.YtollifnnpihfdaaGreatDoorB20
set_option maxRecDepth 100000
set_option maxHeartbeats 64000000
set_option linter.all false
namespace Go.Proofs.YtollifnnpihfdaaGreatDoor
open Go.RowKit
def FlP (w:World) (e:Ending) (w' :World):Prop:=∃ a b:Int,e= .returned (flV a b)∧Below w.heap.size w w'
structure DoF (w wr:World) (A:Option Addr) (n c:Nat) (Am:Option Addr) (nm cm:Nat) (ms:List Mt):Prop where
 low:Below w.heap.size w wr
 mts:AtE EMt wr w.heap.size Am ms
 V:Blk wr w.heap.size 31 #[slV A n c,slV Am nm cm]
 U:∃ a b:Int,Blk wr (w.heap.size+1) 44 #[.int .i64 a, .int .i64 b]
 R:Blk wr (w.heap.size+1+1) 44 #[.int .i64 0, .int .i64 0]
theorem Dg (d i:Int) (A:Option Addr) (n c:Nat) (ms:List Mt) (Am:Option Addr) (nm cm:Nat) (hnm:nm=ms.length) (hl:nm≤1000) (w:World) (hm:AtE EMt w w.heap.size Am ms):
  Calls Tryz.prog 194 #[.agg #[slV A n c,slV Am nm cm],flV d i] w (FlP w):=by
 have HNM:=Hd hnm;have HL:=Hd hl;have B0:=fK w #[slV A n c,slV Am nm cm] #[.int .i64 d, .int .i64 i] #[.int .i64 0, .int .i64 0] 31 44 44;have h2:=Blk.new (w.alloc (.cells #[slV A n c,slV Am nm cm] 31)) #[.int .i64 d, .int .i64 i] 44;have h3:=Blk.new ((w.alloc (.cells #[slV A n c,slV Am nm cm] 31)).alloc (.cells #[.int .i64 d, .int .i64 i] 44)) #[.int .i64 0, .int .i64 0] 44;simp only [World.size_alloc] at h2 h3;have S0:=Hd (show DoF w (((w.alloc (.cells #[slV A n c,slV Am nm cm] 31)).alloc (.cells #[.int .i64 d, .int .i64 i] 44)).alloc (.cells #[.int .i64 0, .int .i64 0] 44)) A n c Am nm cm ms from ⟨B0,hm.keep B0 (Nat.le_refl _),((Blk.new w _ _).alloc _).alloc _,⟨d,i,h2.alloc _⟩,h3⟩);clear B0 h2 h3 hm hnm hl;go_in;go_upto_region 1 with fail;generalize ((w.alloc (.cells #[slV A n c,slV Am nm cm] 31)).alloc (.cells #[.int .i64 d, .int .i64 i] 44)).alloc (.cells #[.int .i64 0, .int .i64 0] 44)=w0 at *;go_wp2_with fail;go_loopw [5] (fun ix wr=>∃ k:Nat,k≤nm+1∧ix= .int .i64 k∧Hid (DoF w wr A n c Am nm cm ms)) (fun ix _=>nm+1 - (intOf ix).toNat);case atStart=>exact ⟨0,Nat.zero_le _,rfl,S0⟩
 case round=>
  clear S0;obtain ⟨k,hk,rfl,HS⟩:=hrel;obtain ⟨a,b,hU⟩:=HS.o.U;have HU:=Hd hU;have v0:=HS.o.V.cell 0;have v1:=HS.o.V.cell 1;have u0:=hU.cell 0;have u1:=hU.cell 1;have hl:=HL.o;have WK:=Hd (dH (q:=k) (by omega));clear hU;by_cases hlt:k≤nm;case neg=>
   have k1:¬ (k:Int)≤(nm:Int):=(by omega);go_wp2_with ((with_reducible refine ae ?_ 44 (.tmp 4) (.tmp 24) ?_ HS.o.R #[.int .i64 a, .int .i64 b] ?_ ?_ ?_ ?_ ?_ ?_);(iterate 4 rfl);(exact dK _ _);rfl;(exact bU _ _));refine bodyPost_ret (iW (fn:=Tryz.f194) rfl _ _ (w.heap.size+1+1) a b rfl (Blk.row HS.o.R _)) rfl ?_;exact ⟨a,b,rfl,ai HS.o.low (by omega) _⟩
  case pos=>
   have k1:(k:Int)≤(nm:Int):=(by omega);go_wp2_with fail;clear v0 v1 u0 u1;refine (FM a b A n c ms Am nm cm HNM.o HL.o wr (HS.o.mts.more HS.o.low.size)).mono ?_;rintro e w2 ⟨rfl,hb⟩;have S2:=Hd (show DoF w w2 A n c Am nm cm ms from ⟨HS.o.low.trans (hb.mono HS.o.low.size),HS.o.mts.keep hb HS.o.low.size,HS.o.V.below hb,⟨a,b,HU.o.below hb⟩,HS.o.R.below hb⟩);have U2:=Hd (HU.o.below hb);clear hb;generalize EO ms a b=o at *;obtain ⟨x,o⟩:=o;cases o with
   | true=>
    have hgx:=aA w2 (w.heap.size+1) #[.int .i64 x, .int .i64 1];have S3:=Hd (show DoF w (w2.setRow (w.heap.size+1) #[.int .i64 x, .int .i64 1]) A n c Am nm cm ms from
     ⟨ai S2.o.low (by omega) _,S2.o.mts.keep ((Below.refl w.heap.size w2).grown hgx S2.o.low.size (fun q e=>by injection e with e;omega)) (Nat.le_refl _),S2.o.V.ah _ (by omega),⟨x,1,U2.o.row _⟩,S2.o.R.ah _ (by omega)⟩)
    clear hgx;obtain ⟨wk1,wk2⟩:=WK.o;go_wp2_with ((with_reducible refine ae ?_ 44 (.tmp 3) (.tmp 23) ?_ U2.o #[.int .i64 x, .int .i64 1] ?_ ?_ ?_ ?_ ?_ ?_);(iterate 4 rfl);(exact dK _ _);rfl;(exact bU _ _));clear wk1 wk2;go_roundw;case rel=>exact ⟨k+1,by omega,rfl,S3⟩
    case measure=>exact aN (by omega) _ rfl
   | false=>
    obtain ⟨wk1,wk2⟩:=WK.o;go_wp2_with fail;clear wk1 wk2;go_roundw;case rel=>exact ⟨k+1,by omega,rfl,S2⟩
    case measure=>exact aN (by omega) _ rfl
structure UpS (w wr:World) (A:Option Addr) (n c:Nat) (ds:List Dm) (Am:Option Addr) (nm cm:Nat) (ms:List Mt) (d i:Int):Prop where
 f:SrF w wr A n c ds Am nm cm ms d i
 R:Blk wr (w.heap.size+1+1) 44 #[.int .i64 0, .int .i64 0]
section
variable {w wr w' :World} {A Am:Option Addr} {n c nm cm:Nat} {ds:List Dm} {ms:List Mt} {d i:Int}
theorem UpS.grow (h:UpS w wr A n c ds Am nm cm ms d i) (hb:Below wr.heap.size wr w'):UpS w w' A n c ds Am nm cm ms d i:=⟨h.f.grow hb,h.R.below hb⟩
theorem UpS.alloc (h:UpS w wr A n c ds Am nm cm ms d i) (o:Obj):UpS w (wr.alloc o) A n c ds Am nm cm ms d i:=h.grow ((Below.refl _ _).alloc (Nat.le_refl _) _)
theorem UpS.start (w:World) (hf:bZ w w.heap.size A ds) (hm:AtE EMt w w.heap.size Am ms):UpS w (((w.alloc (.cells #[slV A n c,slV Am nm cm] 31)).alloc (.cells #[.int .i64 d, .int .i64 i] 44)).alloc (.cells #[.int .i64 0, .int .i64 0] 44)) A n c ds Am nm cm ms d i:=by
 have h3:=Blk.new ((w.alloc (.cells #[slV A n c,slV Am nm cm] 31)).alloc (.cells #[.int .i64 d, .int .i64 i] 44)) #[.int .i64 0, .int .i64 0] 44;simp only [World.size_alloc] at h3;exact ⟨(SrF.start w hf hm).alloc _,h3⟩
theorem UpS.fin (h:UpS w wr A n c ds Am nm cm ms d i) (a b:Int):FlP w (.returned (flV a b)) (wr.setRow (w.heap.size+1+1) #[.int .i64 a, .int .i64 b]):=⟨a,b,rfl,ai h.f.low (by omega) _⟩
end
theorem rY (d i:Int) (ds:List Dm) (A:Option Addr) (n c:Nat) (hn:n=ds.length) (ms:List Mt) (Am:Option Addr) (nm cm:Nat) (hnm:nm=ms.length) (hl:nm≤1000) (w:World) (hf:bZ w w.heap.size A ds) (hm:AtE EMt w w.heap.size Am ms) (hno:¬ (bM (ds.map Dm.dv) d i=true∧i=1∧∃ x,onF ms d=some x)):
  Calls Tryz.prog 195 #[.agg #[slV A n c,slV Am nm cm],flV d i] w (FlP w):=by
 have HNO:=Hd hno;clear hno;have HN:=Hd hn;have HNM:=Hd hnm;have HL:=Hd hl;have S0:=Hd (UpS.start (n:=n) (c:=c) (nm:=nm) (cm:=cm) (d:=d) (i:=i) w hf hm);clear hf hm hn hnm hl;go_in;go_upto_region 1 with fail;generalize ((w.alloc (.cells #[slV A n c,slV Am nm cm] 31)).alloc (.cells #[.int .i64 (d), .int .i64 (i)] 44)).alloc (.cells #[.int .i64 0, .int .i64 0] 44)=w0 at *;have v0:=S0.o.f.V.cell 0;have v1:=S0.o.f.V.cell 1;have u0:=S0.o.f.U.cell 0;have u1:=S0.o.f.U.cell 1;go_wp2_with fail;clear v0 v1 u0 u1;refine (bQ d i ds A n c HN.o w0 S0.o.f.files).mono ?_;intro e w1 hp;cases hq:aD (ds.map Dm.dv) d i with
 | none=>
  rw [hq] at hp;obtain ⟨rfl,hb⟩:=hp;have S2:=Hd ((S0.o.grow hb).alloc (.cells ndZ 145));clear hb hq S0;go_wp2_with ((with_reducible refine ae ?_ 44 (.tmp 4) (.tmp 23) ?_ S2.o.R #[.int .i64 (0), .int .i64 (0)] ?_ ?_ ?_ ?_ ?_ ?_);(iterate 4 rfl);(exact dK _ _);rfl;(exact bU _ _));refine bodyPost_ret (iW (fn:=Tryz.f195) rfl _ _ (w.heap.size+1+1) (0) (0) rfl (Blk.row S2.o.R _)) rfl ?_;exact S2.o.fin _ _
 | some nd=>
  have HDI:=Hd (show bM (ds.map Dm.dv) d i=(nd.kind == 2) by unfold bM;rw [hq]);rw [hq] at hp;obtain ⟨A2,c2,rfl,ho,hb,hsz⟩:=hp;have S2:=Hd ((S0.o.grow hb).alloc (.cells (ndC nd (.slice A2 nd.es.length c2)) 145));have D2:=Hd (Blk.new w1 (ndC nd (.slice A2 nd.es.length c2)) 145);clear ho hb hsz S0;go_upto_region 2 with fail;generalize w1.alloc (.cells (ndC nd (.slice A2 nd.es.length c2)) 145)=w2 at *;have d1:=D2.o.cell 1;have d5:=D2.o.cell 5;have v0:=S2.o.f.V.cell 0;have v1:=S2.o.f.V.cell 1;have u0:=S2.o.f.U.cell 0;have u1:=S2.o.f.U.cell 1;clear hq;by_cases hk:nd.kind=2;case neg=>
   have p2:=(aM hk).2;clear hk;go_wp2_with ((with_reducible refine ae ?_ 44 (.tmp 4) (.tmp 23) ?_ S2.o.R #[.int .i64 (0), .int .i64 (0)] ?_ ?_ ?_ ?_ ?_ ?_);(iterate 4 rfl);(exact dK _ _);rfl;(exact bU _ _));refine bodyPost_ret (iW (fn:=Tryz.f195) rfl _ _ (w.heap.size+1+1) (0) (0) rfl (Blk.row S2.o.R _)) rfl ?_;exact S2.o.fin _ _
  case pos=>
   have p2:=(bI hk).2;have MC:=HDI.o.trans (bI hk).1;clear hk;by_cases hi:i=1;case neg=>
    have p3:=(aM hi).2;clear hi;go_wp2_with ((with_reducible refine ae ?_ 44 (.tmp 4) (.tmp 31) ?_ S2.o.R #[.int .i64 (d), .int .i64 (nd.par)] ?_ ?_ ?_ ?_ ?_ ?_);(iterate 4 rfl);(exact dK _ _);rfl;(exact bU _ _));refine bodyPost_ret (iW (fn:=Tryz.f195) rfl _ _ (w.heap.size+1+1) (d) (nd.par) rfl (Blk.row S2.o.R _)) rfl ?_;exact S2.o.fin _ _
   case pos=>
    have p3:=(bI hi).2;have HON:=Hd (show onF ms d=none by
     cases ho:onF ms d with
     | none=>rfl
     | some x=>exact absurd ⟨MC,hi,x,ho⟩ HNO.o)
    clear hi MC HNO;go_wp2_with fail;clear v0 v1 u0 u1;clear d1 d5 p2 p3;refine (ron d A n c ms Am nm cm HNM.o HL.o w2 S2.o.f.aR).mono ?_;rintro e w3 ⟨rfl,hb⟩;rw [rX HON.o];have S4:=Hd ((S2.o.grow hb).alloc (.cells #[.int .i64 0, .int .i64 0] 44));clear hb;go_upto_region 9 with fail;generalize w3.alloc (.cells #[.int .i64 0, .int .i64 0] 44)=w4 at *;have v0:=S4.o.f.V.cell 0;have v1:=S4.o.f.V.cell 1;have u0:=S4.o.f.U.cell 0;have u1:=S4.o.f.U.cell 1;go_wp2_with ((with_reducible refine ae ?_ 44 (.tmp 4) (.tmp 43) ?_ S4.o.R #[.int .i64 (d), .int .i64 (i)] ?_ ?_ ?_ ?_ ?_ ?_);(iterate 4 rfl);(exact dK _ _);rfl;(exact bU _ _));refine bodyPost_ret (iW (fn:=Tryz.f195) rfl _ _ (w.heap.size+1+1) (d) (i) rfl (Blk.row S4.o.R _)) rfl ?_;exact S4.o.fin _ _
theorem Dh (ds:List Dm) (A:Option Addr) (n c:Nat) (hn:n=ds.length) (ms:List Mt) (Am:Option Addr) (nm cm:Nat) (hnm:nm=ms.length) (hl:nm≤1000) {k:Nat} {d i:Int} {L:List ByteArray} (h:lT (ds.map Dm.dv) ms k d i L):
  ∀ (w:World),bZ w w.heap.size A ds→AtE EMt w w.heap.size Am ms→Calls Tryz.prog 195 #[.agg #[slV A n c,slV Am nm cm],flV d i] w (FlP w):=by
 induction h with
 | top h1 h2=>exact fun w hf hm=>rY 0 1 ds A n c hn ms Am nm cm hnm hl w hf hm (fun ⟨_,_,x,hx⟩=>by rw [h1] at hx;cases hx)
 | step _ _ h3 _ _ _=>exact fun w hf hm=>rY _ _ ds A n c hn ms Am nm cm hnm hl w hf hm (fun ⟨_,h,_⟩=>h3 h)
 | @over h' dev a b L h1 h0 h2 _ ih=>
  intro w hf hm;obtain ⟨nd,hq,hk⟩:=kH h1;have HQ:=Hd hq;have p2:=(bI hk).2;have HON:=Hd (rW h2);clear hq hk h1 h0 h2;have HN:=Hd hn;have HNM:=Hd hnm;have HL:=Hd hl;have S0:=Hd (UpS.start (n:=n) (c:=c) (nm:=nm) (cm:=cm) (d:=dev) (i:=1) w hf hm);clear hf hm hn hnm hl;go_in;go_upto_region 1 with fail;generalize ((w.alloc (.cells #[slV A n c,slV Am nm cm] 31)).alloc (.cells #[.int .i64 (dev), .int .i64 (1)] 44)).alloc (.cells #[.int .i64 0, .int .i64 0] 44)=w0 at *;have v0:=S0.o.f.V.cell 0;have v1:=S0.o.f.V.cell 1;have u0:=S0.o.f.U.cell 0;have u1:=S0.o.f.U.cell 1;go_wp2_with fail;clear v0 v1 u0 u1;refine (bQ dev 1 ds A n c HN.o w0 S0.o.f.files).mono ?_;intro e w1 hp;rw [HQ.o] at hp;obtain ⟨A2,c2,rfl,ho,hb,hsz⟩:=hp;have S2:=Hd ((S0.o.grow hb).alloc (.cells (ndC nd (.slice A2 nd.es.length c2)) 145));have D2:=Hd (Blk.new w1 (ndC nd (.slice A2 nd.es.length c2)) 145);clear ho hb hsz S0;go_upto_region 2 with fail;generalize w1.alloc (.cells (ndC nd (.slice A2 nd.es.length c2)) 145)=w2 at *;have d1:=D2.o.cell 1;have d5:=D2.o.cell 5;have v0:=S2.o.f.V.cell 0;have v1:=S2.o.f.V.cell 1;have u0:=S2.o.f.U.cell 0;have u1:=S2.o.f.U.cell 1;go_wp2_with fail;clear v0 v1 u0 u1;clear d1 d5 p2;refine (ron dev A n c ms Am nm cm HNM.o HL.o w2 S2.o.f.aR).mono ?_;rintro e w3 ⟨rfl,hb⟩;rw [HON.o];have S4:=Hd ((S2.o.grow hb).alloc (.cells #[.int .i64 a, .int .i64 b] 44));have O4:=Hd (Blk.new w3 #[.int .i64 a, .int .i64 b] 44);clear hb;go_upto_region 8 with fail;generalize w3.alloc (.cells #[.int .i64 a, .int .i64 b] 44)=w4 at *;have v0:=S4.o.f.V.cell 0;have v1:=S4.o.f.V.cell 1;have u0:=S4.o.f.U.cell 0;have u1:=S4.o.f.U.cell 1;have o0:=O4.o.cell 0;have o1:=O4.o.cell 1;go_wp2_with fail;clear v0 v1 u0 u1;clear o0 o1;refine (ih w4 S4.o.f.files S4.o.f.aR).mono ?_;rintro e w5 ⟨x,y,rfl,hb⟩;have S5:=Hd (S4.o.grow hb);clear hb S4 O4;go_wp2_with ((with_reducible refine ae ?_ 44 (.tmp 4) (.tmp 42) ?_ S5.o.R #[.int .i64 (x), .int .i64 (y)] ?_ ?_ ?_ ?_ ?_ ?_);(iterate 4 rfl);(exact dK _ _);rfl;(exact bU _ _));refine bodyPost_ret (iW (fn:=Tryz.f195) rfl _ _ (w.heap.size+1+1) (x) (y) rfl (Blk.row S5.o.R _)) rfl ?_;exact S5.o.fin _ _
theorem rup (d i:Int) (ds:List Dm) (A:Option Addr) (n c:Nat) (hn:n=ds.length) (ms:List Mt) (Am:Option Addr) (nm cm:Nat) (hnm:nm=ms.length) (hl:nm≤1000) (hok:SOk (ds.map Dm.dv) ms) (w:World) (hf:bZ w w.heap.size A ds) (hm:AtE EMt w w.heap.size Am ms):
  Calls Tryz.prog 195 #[.agg #[slV A n c,slV Am nm cm],flV d i] w (FlP w):=by
 cases hd:bM (ds.map Dm.dv) d i with
 | false=>exact rY d i ds A n c hn ms Am nm cm hnm hl w hf hm (fun ⟨h,_⟩=>by rw [hd] at h;cases h)
 | true=>
  cases ho:onF ms d with
  | none=>exact rY d i ds A n c hn ms Am nm cm hnm hl w hf hm (fun ⟨_,_,x,h⟩=>by rw [ho] at h;cases h)
  | some x=>
   obtain ⟨a,b⟩:=x;obtain ⟨L,k,h1,_⟩:=hok.FD (vV ho) hd;exact Dh ds A n c hn ms Am nm cm hnm hl h1 w hf hm
theorem Gj (A:Option Addr) (n c:Nat) (ms:List Mt) (Am:Option Addr) (nm cm:Nat) (hnm:nm=ms.length) (hl:nm≤1000) (w:World) (hm:AtE EMt w w.heap.size Am ms):
  Calls Tryz.prog 193 #[.agg #[slV A n c,slV Am nm cm]] w (FlP w):=by
 have B0:=Hd (aT w #[slV A n c,slV Am nm cm] #[.int .i64 0, .int .i64 0] 31 44);have HD:=Hd (Dg 0 1 A n c ms Am nm cm hnm hl _ (hm.below B0.o));have R0:=Hd (show Blk ((w.alloc (.cells #[slV A n c,slV Am nm cm] 31)).alloc (.cells #[.int .i64 0, .int .i64 0] 44)) (w.heap.size+1) 44 #[.int .i64 0, .int .i64 0] by
  have h:=Blk.new (w.alloc (.cells #[slV A n c,slV Am nm cm] 31)) #[.int .i64 0, .int .i64 0] 44;simp only [World.size_alloc] at h;exact h)
 clear hm hnm hl;go_in;go_wp2_with fail;refine HD.o.mono ?_;rintro e w1 ⟨a,b,rfl,hb⟩;have R1:=Hd (R0.o.below hb);have B1:=Hd (B0.o.trans (hb.mono B0.o.size));clear hb HD R0;go_wp2_with ((with_reducible refine ae ?_ 44 (.tmp 2) (.tmp 5) ?_ R1.o #[.int .i64 a, .int .i64 b] ?_ ?_ ?_ ?_ ?_ ?_);(iterate 4 rfl);(exact dK _ _);rfl;(exact bU _ _));refine bodyPost_ret (iW (fn:=Tryz.f193) rfl _ _ (w.heap.size+1) a b rfl (Blk.row R1.o _)) rfl ?_;exact ⟨a,b,rfl,ai B1.o (by omega) _⟩
end Go.Proofs.YtollifnnpihfdaaGreatDoor
