import Derived.Test.YtollifnnpihfdaaGreatDoorB09
import Derived.Test.YtollifnnpihfdaaGreatDoorB10
set_option maxRecDepth 100000
set_option maxHeartbeats 64000000
set_option linter.all false
namespace Go.Proofs.YtollifnnpihfdaaGreatDoor
open Go.RowKit
theorem fK (w:World) (cs ds es:Array Value) (s t u:TypeId):Below w.heap.size w (((w.alloc (.cells cs s)).alloc (.cells ds t)).alloc (.cells es u)):=
 (((Below.refl w.heap.size w).alloc (Nat.le_refl _) _).alloc (by simp) _).alloc (by simp;omega) _
theorem tC (x:Chg) (w:World):
  Calls Tryz.prog 229 #[flV x.dd x.di, .string x.nm,flV x.od x.oi,flV x.nd x.ni] w fun e w' =>∃ v,e= .returned v∧ax lN w' w.heap.size v [x]∧Below w.heap.size w w' :=by
 have B0:=Hd (fK w #[.int .i64 x.dd, .int .i64 x.di] #[.int .i64 x.od, .int .i64 x.oi] #[.int .i64 x.nd, .int .i64 x.ni] 44 44 44);go_in;go_wp2_with fail;go_ret;refine ⟨_,rfl,?_,B0.o.alloc B0.o.size (.cells (chC x) 283)⟩;have h:=vB lN (((w.alloc (.cells #[.int .i64 x.dd, .int .i64 x.di] 44)).alloc (.cells #[.int .i64 x.od, .int .i64 x.oi] 44)).alloc (.cells #[.int .i64 x.nd, .int .i64 x.ni] 44)) w.heap.size (chC x) x rfl B0.o.size;simp only [World.size_alloc] at h;exact h
theorem aL {fn:Func} {i j k:Nat} (h:fn.results=#[.cell i 28, .tmp j, .tmp k]) (tmps:Array Value) (w:World) (g:Nat) (v:Value) (hp:tmps.getD i undef= .pointer (some ⟨g,0,none⟩)) (hg:Blk w g 28 #[v]):
  (results fn tmps).run Tryz.prog w= .ok (.tuple #[.agg #[v],tmps.getD j undef,tmps.getD k undef]) w:=by
 have hp' :tmps[i]?.getD undef= .pointer (some ⟨g,0,none⟩):=by simpa using hp
 simp [results,h,hp',asAddr,run_loadVar_row w g 28 28 #[v] (0,0) _ hg Tryz.underlying28 rfl (bR v)]
theorem bg (A:Option Addr) (n c:Nat):(#[(.slice A n c:Value)]:Array Value).all (·.oneCell')=true:=by simp [Value.oneCell']
def jY (R:List Dv→List Chg→Prop) (w:World) (e:Ending) (w' :World):Prop:=
 Below w.heap.size w w' ∧((∃ k:Int,k≠0∧e= .returned (.tuple #[.agg #[.slice none 0 0], .slice none 0 0, .int .i64 k]))∨
  (∃ (A:Option Addr) (n c:Nat) (ds:List Dm) (v:Value) (cs:List Chg),n=ds.length∧e= .returned (.tuple #[fsV A n c,v, .int .i64 0])∧aC w' w.heap.size (.slice A n c) ds∧ax lN w' w.heap.size v cs∧R (ds.map Dm.dv) cs))
structure OpF (w wr:World) (A:Option Addr) (n c:Nat) (ds:List Dm) (dev ino:Int) (r:Nat):Prop where
 low:Below w.heap.size w wr
 src:bZ wr w.heap.size A ds
 V:Blk wr w.heap.size 28 #[.slice A n c]
 U:Blk wr (w.heap.size+1) 44 #[.int .i64 dev, .int .i64 ino]
 R:Blk wr r 28 #[.slice none 0 0]
 hr:w.heap.size+2≤r
 nl:n=ds.length
section
variable {w wr w' :World} {A:Option Addr} {n c r:Nat} {ds:List Dm} {dev ino:Int}
theorem OpF.grow (h:OpF w wr A n c ds dev ino r) (hb:Below wr.heap.size wr w'):OpF w w' A n c ds dev ino r:=
 ⟨h.low.trans (hb.mono h.low.size),h.src.keep hb h.low.size,h.V.below hb,h.U.below hb,h.R.below hb,h.hr,h.nl⟩
theorem OpF.keep (h:OpF w wr A n c ds dev ino r) {B:Nat} (hb:Below B wr w') (hB:r < B):OpF w w' A n c ds dev ino r:=
 ⟨h.low.trans (hb.mono (by have:=h.hr;omega)),h.src.keep hb (by have:=h.hr;omega),h.V.keep hb (by have:=h.hr;omega),h.U.keep hb (by have:=h.hr;omega),h.R.keep hb hB,h.hr,h.nl⟩
theorem OpF.alloc (h:OpF w wr A n c ds dev ino r) (o:Obj):OpF w (wr.alloc o) A n c ds dev ino r:=h.grow ((Below.refl _ _).alloc (Nat.le_refl _) _)
theorem OpF.files (h:OpF w wr A n c ds dev ino r):bZ wr wr.heap.size A ds:=h.src.more h.low.size
theorem OpF.err (h:OpF w wr A n c ds dev ino r) (R:List Dv→List Chg→Prop) {k:Int} (hk:k≠0):jY R w (.returned (.tuple #[.agg #[.slice none 0 0], .slice none 0 0, .int .i64 k])) (wr.setRow r #[.slice none 0 0]):=
 ⟨ai h.low (by have:=h.hr;omega) _, .inl ⟨k,hk,rfl⟩⟩
end
theorem aC.spare {w w' :World} {base:Nat} {v:Value} {ds:List Dm} (h:aC w base v ds) {row:Option Nat} (hg:w.grownBy w' row) (hr:∀ q,row=some q→v.ownBlock=some q∨∃ d∈ds,d.sl.ownBlock=some q)
   {g:Nat} {t:TypeId} {cs:Array Value} (hb:Blk w g t cs) (h1:EDv.e≠t) (h2:ENd.e≠t):Blk w' g t cs:=hb.grown hg fun e=>by
 rcases hr g e with e2 | ⟨d,hd,e2⟩
 · exact ay h.own hb h1 e2
 · exact ay (h.nodes d hd).1 hb h2 e2
theorem aC.uy {w:World} {base:Nat} {A:Option Addr} {n c:Nat} {ds:List Dm} (h:aC w base (.slice A n c) ds):bZ w w.heap.size A ds∧n=ds.length:=by
 obtain ⟨A',c',e,hat⟩:=h.at;injection e with e e2 _;subst e;exact ⟨hat,e2⟩
theorem vH (w:World) (cs ds es fs:Array Value) (s t u v:TypeId):Below w.heap.size w ((((w.alloc (.cells cs s)).alloc (.cells ds t)).alloc (.cells es u)).alloc (.cells fs v)):=
 (fK w cs ds es s t u).alloc (by simp;omega) _
theorem FOk.FE {f:List Dv} (h:FOk f) {dev ino:Int} {n:Nd} (hn:aD f dev ino=some n):n.es.length≤12:=by
 obtain ⟨d,hd,hm,_⟩:=aG hn;exact ((h.2.2 d (bz hd)).cu n hm).1
theorem FOk.nM {f:List Dv} (h:FOk f) (dev ino:Int):∀ n,aD f dev ino=some n→n.es.length≤999:=fun n hn=>by
 have:=h.FE hn;omega
theorem fO {f:List Dv} {dev ino:Int} {n:Nd} (h:aD f dev ino=some n):∃ k,fD f dev ino=some k:=by
 obtain ⟨d,hd,hm,hi⟩:=aG h;obtain ⟨k,hk,_⟩:=fH hd hm hi;exact ⟨k,hk⟩
theorem aM {x y:Int} (h:x≠y):(x == y)=false∧(x != y)=true:=by
 have:(x == y)=false:=by simpa using h
 exact ⟨this,by rw [bne,this];rfl⟩
theorem bI {x y:Int} (h:x=y):(x == y)=true∧(x != y)=false:=by
 have:(x == y)=true:=by simpa using h
 exact ⟨this,by rw [bne,this];rfl⟩
theorem J4 (w:World) (A:Option Addr) (n c:Nat) (ds:List Dm) (hn:n=ds.length) (dev ino:Int) (h:bZ w w.heap.size A ds) (xs:Array Value) (t:TypeId):
  OpF w ((((w.alloc (.cells #[.slice A n c] 28)).alloc (.cells #[.int .i64 dev, .int .i64 ino] 44)).alloc (.cells xs t)).alloc (.cells #[.slice none 0 0] 28)) A n c ds dev ino (w.heap.size+1+1+1)∧
  Blk ((((w.alloc (.cells #[.slice A n c] 28)).alloc (.cells #[.int .i64 dev, .int .i64 ino] 44)).alloc (.cells xs t)).alloc (.cells #[.slice none 0 0] 28)) (w.heap.size+1+1) t xs:=by
 have B0:=vH w #[.slice A n c] #[.int .i64 dev, .int .i64 ino] xs #[.slice none 0 0] 28 44 t 28;have h1:=Blk.new w #[.slice A n c] 28;have h2:=Blk.new (w.alloc (.cells #[.slice A n c] 28)) #[.int .i64 dev, .int .i64 ino] 44;have h3:=Blk.new ((w.alloc (.cells #[.slice A n c] 28)).alloc (.cells #[.int .i64 dev, .int .i64 ino] 44)) xs t;have h4:=Blk.new (((w.alloc (.cells #[.slice A n c] 28)).alloc (.cells #[.int .i64 dev, .int .i64 ino] 44)).alloc (.cells xs t)) #[.slice none 0 0] 28;simp only [World.size_alloc] at h2 h3 h4;exact ⟨⟨B0,h.keep B0 (Nat.le_refl _),((h1.alloc _).alloc _).alloc _,(h2.alloc _).alloc _,h4,by omega,hn⟩,h3.alloc _⟩
theorem J5 (w:World) (A:Option Addr) (n c:Nat) (ds:List Dm) (hn:n=ds.length) (dev ino:Int) (h:bZ w w.heap.size A ds):
  OpF w (((w.alloc (.cells #[.slice A n c] 28)).alloc (.cells #[.int .i64 dev, .int .i64 ino] 44)).alloc (.cells #[.slice none 0 0] 28)) A n c ds dev ino (w.heap.size+1+1):=by
 have B0:=fK w #[.slice A n c] #[.int .i64 dev, .int .i64 ino] #[.slice none 0 0] 28 44 28;have h1:=Blk.new w #[.slice A n c] 28;have h2:=Blk.new (w.alloc (.cells #[.slice A n c] 28)) #[.int .i64 dev, .int .i64 ino] 44;have h4:=Blk.new ((w.alloc (.cells #[.slice A n c] 28)).alloc (.cells #[.int .i64 dev, .int .i64 ino] 44)) #[.slice none 0 0] 28;simp only [World.size_alloc] at h2 h4;exact ⟨B0,h.keep B0 (Nat.le_refl _),(h1.alloc _).alloc _,h2.alloc _,h4,by omega,hn⟩
theorem FJ (dev ino ib mr:Int) (nm:ByteArray) (hm:nm.size≤1000) (ds:List Dm) (A:Option Addr) (n c:Nat) (hn:n=ds.length) (hok:FOk (ds.map Dm.dv)) (w:World) (h:bZ w w.heap.size A ds):
  Calls Tryz.prog 163 #[fsV A n c,flV dev ino, .string nm,flV ib mr] w (jY (fun f' cs=>yY (ds.map Dm.dv) dev ino nm ib mr f' ∧cs.length≤2) w):=by
 have HN:=Hd hn;have HM:=Hd hm;have HOK:=Hd hok;obtain ⟨hs,hx⟩:=J4 w A n c ds hn dev ino h #[.int .i64 ib, .int .i64 mr] 44;have S0:=Hd hs;have X0:=Hd hx;clear hs hx h hn hok;have HM9:nm.size≤maxLen:=by unfold maxLen;omega
 have HM8:=Hd HM9;clear HM9 hm;go_in;go_wp2_with fail;generalize (((w.alloc (.cells #[.slice A n c] 28)).alloc (.cells #[.int .i64 dev, .int .i64 ino] 44)).alloc (.cells #[.int .i64 ib, .int .i64 mr] 44)).alloc (.cells #[.slice none 0 0] 28)=w0 at *;refine (jL dev ino nm HM8.o ds A n c HN.o w0 S0.o.files).mono ?_;rintro e w1 ⟨rfl,hb⟩;have S1:=Hd (S0.o.grow hb);have X1:=Hd (X0.o.below hb);clear hb;by_cases hp:aZ (ds.map Dm.dv) dev ino nm=0;case neg=>
  have HK:=Hd hp;obtain ⟨p1,p2⟩:=aM hp;clear hp;go_wp2_with ((with_reducible refine ae ?_ 28 (.tmp 8) (.tmp 23) ?_ S1.o.R #[.slice none 0 0] ?_ ?_ ?_ ?_ ?_ ?_);(iterate 4 rfl);(exact bR _);rfl;(exact bg _ _ _));refine bodyPost_ret (aL (fn:=Tryz.f163) rfl _ _ _ (.slice none 0 0) rfl (Blk.row S1.o.R _)) rfl ?_;exact S1.o.err _ HK.o
 case pos=>
 have HP0:=Hd hp;rw [hp];clear hp;have v0:=S1.o.V.cell 0;have u0:=S1.o.U.cell 0;have u1:=S1.o.U.cell 1;have x0:=X1.o.cell 0;have x1:=X1.o.cell 1;go_wp2_with fail;clear v0 u0 u1 x0 x1;refine (bQ ib mr ds A n c HN.o w1 S1.o.files).mono ?_;intro e w2 hp;cases hq:aD (ds.map Dm.dv) ib mr with
 | none=>
  rw [hq] at hp;obtain ⟨rfl,hb⟩:=hp;have S2:=Hd ((S1.o.grow hb).alloc (.cells ndZ 145));clear hb hq;go_wp2_with ((with_reducible refine ae ?_ 28 (.tmp 8) (.tmp 33) ?_ S2.o.R #[.slice none 0 0] ?_ ?_ ?_ ?_ ?_ ?_);(iterate 4 rfl);(exact bR _);rfl;(exact bg _ _ _));refine bodyPost_ret (aL (fn:=Tryz.f163) rfl _ _ _ (.slice none 0 0) rfl (Blk.row S2.o.R _)) rfl ?_;exact S2.o.err _ (by decide)
 | some nd=>
  rw [hq] at hp;obtain ⟨A2,c2,rfl,ho,hb,hsz⟩:=hp;have S2:=Hd ((S1.o.grow hb).alloc (.cells (ndC nd (.slice A2 nd.es.length c2)) 145));have X2:=Hd ((X1.o.below hb).alloc (.cells (ndC nd (.slice A2 nd.es.length c2)) 145));have D2:=Hd (Blk.new w2 (ndC nd (.slice A2 nd.es.length c2)) 145);have HQ:=Hd hq;clear hb hq ho hsz S1 X1;go_upto_region 7 with fail;generalize w2.alloc (.cells (ndC nd (.slice A2 nd.es.length c2)) 145)=w3 at *;have v0:=S2.o.V.cell 0;have u0:=S2.o.U.cell 0;have u1:=S2.o.U.cell 1;have x0:=X2.o.cell 0;have x1:=X2.o.cell 1;by_cases hd:ib=dev;case neg=>
   obtain ⟨p1,p2⟩:=aM hd;clear hd;go_wp2_with ((with_reducible refine ae ?_ 28 (.tmp 8) (.tmp 39) ?_ S2.o.R #[.slice none 0 0] ?_ ?_ ?_ ?_ ?_ ?_);(iterate 4 rfl);(exact bR _);rfl;(exact bg _ _ _));refine bodyPost_ret (aL (fn:=Tryz.f163) rfl _ _ _ (.slice none 0 0) rfl (Blk.row S2.o.R _)) rfl ?_;exact S2.o.err _ (by decide)
  case pos=>
  subst hd;have p2:(ib != ib)=false:=(bI rfl).2;have d1:=D2.o.cell 1;by_cases hk:nd.kind=2;case pos=>
   have p3:=(bI hk).1;clear hk;go_wp2_with ((with_reducible refine ae ?_ 28 (.tmp 8) (.tmp 43) ?_ S2.o.R #[.slice none 0 0] ?_ ?_ ?_ ?_ ?_ ?_);(iterate 4 rfl);(exact bR _);rfl;(exact bg _ _ _));refine bodyPost_ret (aL (fn:=Tryz.f163) rfl _ _ _ (.slice none 0 0) rfl (Blk.row S2.o.R _)) rfl ?_;exact S2.o.err _ (by decide)
  case neg=>
  have HKN:=Hd hk;have p3:=(aM hk).1;clear hk;go_wp2_with fail;clear d1 p2 p3;clear v0 u0 u1 x0 x1;refine (fJ ib ino nm ds A n c HN.o w3 S2.o.files).mono ?_;rintro e w4 ⟨rfl,hb⟩;have S4:=Hd (S2.o.grow hb);have X4:=Hd (X2.o.below hb);clear hb;generalize hr:cB (ds.map Dm.dv) ib ino nm=rr at *;obtain ⟨ke,r1,r2⟩:=rr;by_cases hz:ke=0;case pos=>
   subst hz;have S5:=Hd (S4.o.alloc (.cells #[.int .i64 r1, .int .i64 r2] 44));go_wp2_with ((with_reducible refine ae ?_ 28 (.tmp 8) (.tmp 53) ?_ S5.o.R #[.slice none 0 0] ?_ ?_ ?_ ?_ ?_ ?_);(iterate 4 rfl);(exact bR _);rfl;(exact bg _ _ _));refine bodyPost_ret (aL (fn:=Tryz.f163) rfl _ _ _ (.slice none 0 0) rfl (Blk.row S5.o.R _)) rfl ?_;exact S5.o.err _ (by decide)
  case neg=>
  have HKE:=Hd hz;have HLK:=Hd hr;obtain ⟨p1,p4⟩:=aM hz;clear hz hr;have S5:=Hd (S4.o.alloc (.cells #[.int .i64 r1, .int .i64 r2] 44));have X5:=Hd (X4.o.alloc (.cells #[.int .i64 r1, .int .i64 r2] 44));clear S4 X4 S2 X2 D2;go_upto_region 14 with fail;generalize w4.alloc (.cells #[.int .i64 r1, .int .i64 r2] 44)=w5 at *;clear p1 p4;have v0:=S5.o.V.cell 0;have u0:=S5.o.U.cell 0;have u1:=S5.o.U.cell 1;go_wp2_with fail;clear v0 u0 u1;refine (uU ib ino ds A n c HN.o w5 S5.o.files).mono ?_;rintro e w6 ⟨rfl,hb⟩;have S6:=Hd (S5.o.grow hb);have X6:=Hd (X5.o.below hb);clear hb;cases hf:kv (ds.map Dm.dv) ib ino with
  | true=>
   clear hf;go_wp2_with ((with_reducible refine ae ?_ 28 (.tmp 8) (.tmp 57) ?_ S6.o.R #[.slice none 0 0] ?_ ?_ ?_ ?_ ?_ ?_);(iterate 4 rfl);(exact bR _);rfl;(exact bg _ _ _));refine bodyPost_ret (aL (fn:=Tryz.f163) rfl _ _ _ (.slice none 0 0) rfl (Blk.row S6.o.R _)) rfl ?_;exact S6.o.err _ (by decide)
  | false=>
   have HF:=Hd hf;clear hf S5 X5;have v0:=S6.o.V.cell 0;have u0:=S6.o.U.cell 0;have u1:=S6.o.U.cell 1;go_wp2_with fail;clear v0 u0 u1;refine (jX ds A n c HN.o w6 S6.o.files).mono ?_;rintro e w7 ⟨v7,ds7,rfl,ho7,he7,hb⟩;have S7:=Hd (S6.o.grow hb);have X7:=Hd (X6.o.below hb);obtain ⟨A7,c7,rfl,_⟩:=ho7.at;have S8:=Hd (S7.o.alloc (.cells #[.slice A7 ds7.length c7] 28));have X8:=Hd (X7.o.alloc (.cells #[.slice A7 ds7.length c7] 28));have O8:=Hd (Blk.new w7 #[.slice A7 ds7.length c7] 28);have HO8:=Hd (ho7.below ((Below.refl w7.heap.size w7).alloc (Nat.le_refl _) (.cells #[.slice A7 ds7.length c7] 28)));have NA:=Hd (show w.heap.size+1+1+1 < w6.heap.size from S6.o.R.lt);have HX6:=Hd (show w.heap.size+1+1 < w6.heap.size from X6.o.lt);have HE:=Hd he7;have vI:w6.heap.size≤w7.heap.size:=hb.size;have vJ:=S6.o.low.size;clear hb ho7 he7 S7 X7 S6 X6;go_upto_region 17 with fail;generalize w7.alloc (.cells #[.slice A7 ds7.length c7] 28)=w8 at *;have o0:=O8.o.cell 0;have v0:=S8.o.V.cell 0;have u0:=S8.o.U.cell 0;have u1:=S8.o.U.cell 1;have x0:=X8.o.cell 0;have x1:=X8.o.cell 1;have NB:=Hd vI;obtain ⟨nd1,hn1,hk1,zb⟩:=bB HP0.o;obtain ⟨ki,hki⟩:=fO hn1;have HKI:=Hd (show fD (ds7.map Dm.dv) ib ino=some ki by rw [HE.o];exact hki);clear hn1 hk1 zb hki nd1;have HB8:=Hd (show w6.heap.size≤w8.heap.size from Nat.le_trans vI (Nat.le_of_lt O8.o.lt));have HR6:=Hd NA.o;clear vI vJ;go_wp2_with fail;refine (jM ib ino nm HM.o mr ds7 A7 ds7.length c7 rfl w6.heap.size w8 HO8.o HB8.o ki HKI.o (fun nd hnd=>HOK.o.nM ib ino nd (by rw [← HE.o];exact hnd))).mono ?_;rintro e w9 ⟨ds9,rfl,ho9,he9,hl9,hb9,ze,hg9,hr9⟩;have S9:=Hd (S8.o.keep hb9 HR6.o);have X9:=Hd (X8.o.keep hb9 HX6.o);have O9:=Hd (HO8.o.spare hg9 hr9 O8.o (by decide) (by decide));have HO9:=Hd ho9;have HW7:=Hd (show w6.heap.size≤w7.heap.size from NB.o);clear ho9 hb9 hg9 hr9 S8 X8 O8 HO8 o0;clear v0 u0 u1 x0 x1;have hw7:=HW7.o;have hr6:=HR6.o;have hx6:=HX6.o;go_upto_region 18 with fail;refine wp_region_held_drew (S:=(fun W=>Blk W (w.heap.size+1) 44 #[.int .i64 ib, .int .i64 ino]∧Blk W (w.heap.size+1+1) 44 #[.int .i64 ib, .int .i64 mr]∧Blk W (w7.heap.size) 28 #[.slice A7 ds7.length c7])) (by kernel_rfl) ⟨S9.o.U,X9.o,O9.o⟩ (fun hHeld=>?_);refine tk hHeld 0 ?_ ?_ (tk hHeld 1 ?_ ?_ (tk hHeld 2 ?_ ?_ (tk hHeld 3 ?_ ?_ (tk hHeld 4 ?_ ?_ ?_))));iterate 5
    rotate_left
    · intro W hSw;obtain ⟨y0,y1,y2⟩:=hSw;have J6:=y0.cell 0;have J7:=y0.cell 1;have J8:=y1.cell 0;have J9:=y1.cell 1;have Ka:=y2.cell 0;go_simp;try (with_reducible rfl)
   refine rdy1 5 (fun K hK=>?_);go_simp;go_at_call 229;refine (tC ⟨ib,ino,nm,0,0,ib,mr⟩ _).mono ?_;rintro e wz ⟨vz,rfl,hov,hbz⟩;have hbz:Below w9.heap.size w9 wz:=aa (Below.refl w9.heap.size w9).drew hbz;have hov:ax lN wz w9.heap.size vz [⟨ib,ino,nm,0,0,ib,mr⟩]:=hov;have hh:Blk wz (w.heap.size+1) 44 #[.int .i64 ib, .int .i64 ino]∧Blk wz (w.heap.size+1+1) 44 #[.int .i64 ib, .int .i64 mr]∧Blk wz (w7.heap.size) 28 #[.slice A7 ds7.length c7]:=⟨S9.o.U.below hbz,X9.o.below hbz,O9.o.below hbz⟩;have RZ:=Hd (S9.o.R.below hbz);have HOV:=Hd hov;have HBZ:=Hd hbz;clear hbz hov;go_simp;refine hK.o _ _ hh (fun hHeld=>?_);clear hK K;have r0:=RZ.o.cell 0;have rf:=RZ.o.free 0;have hh2:∀ u:Value,Blk (wz.setCell ⟨(w.heap.size+1+1+1),0,none⟩ u) (w.heap.size+1) 44 #[.int .i64 ib, .int .i64 ino]∧Blk (wz.setCell ⟨(w.heap.size+1+1+1),0,none⟩ u) (w.heap.size+1+1) 44 #[.int .i64 ib, .int .i64 mr]∧Blk (wz.setCell ⟨(w.heap.size+1+1+1),0,none⟩ u) (w7.heap.size) 28 #[.slice A7 ds7.length c7]:=fun u=>⟨hh.1.af _ (by show _≠(w.heap.size+1+1+1);omega),hh.2.1.af _ (by show _≠(w.heap.size+1+1+1);omega),hh.2.2.af _ (by show _≠(w.heap.size+1+1+1);omega)⟩;refine rdy1 6 (fun K hK=>?_);go_simp;refine hK.o _ _ (hh2 _) (fun hHeld=>?_);clear hK K;clear hh2 hh r0 rf;refine tk hHeld 7 ?_ ?_ (tk hHeld 8 ?_ ?_ ?_);iterate 2
    rotate_left
    · intro W hSw;go_simp;try (with_reducible rfl)
   refine wpAnyH_done (by kernel_rfl) ?_ _;go_wp2_with fail;refine bodyPost_ret (aL (fn:=Tryz.f163) rfl _ _ (w.heap.size+1+1+1) (.slice A7 ds7.length c7) rfl (RZ.o.put 0 _)) rfl ?_;have hof:=(HO9.o.below HBZ.o).far (av wz ((w.heap.size+1+1+1)) 0 (.slice A7 ds7.length c7)) (fun q e=>by injection e with e;subst e;exact (HO9.o.below HBZ.o).old (by have:=HR6.o;omega));refine ⟨(S9.o.low.trans (HBZ.o.mono S9.o.low.size)).setCell (p:=⟨(w.heap.size+1+1+1),0,none⟩) (by show w.heap.size≤(w.heap.size+1+1+1);omega) _, .inr ⟨A7,ds7.length,c7,ds9,vz, [⟨ib,ino,nm,0,0,ib,mr⟩],hof.uy.2,rfl,hof.low (by have:=HR6.o;omega),(HOV.o.bH (g:=(w.heap.size+1+1+1)) (i:=0) (fun e=>by have:=HOV.o.ge _ e;have:=S9.o.R.lt;omega) _).low S9.o.low.size,⟨⟨HP0.o,by rw [HLK.o];exact HKE.o,HF.o,rfl,⟨nd,HQ.o,HKN.o⟩,by rw [he9,HE.o]⟩,by show 1≤2;omega⟩⟩⟩
end Go.Proofs.YtollifnnpihfdaaGreatDoor
