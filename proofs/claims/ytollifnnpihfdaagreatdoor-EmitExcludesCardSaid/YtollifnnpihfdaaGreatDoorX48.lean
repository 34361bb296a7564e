import Derived.Test.YtollifnnpihfdaaGreatDoorX47
import Derived.Great.Walk
set_option maxRecDepth 100000
set_option maxHeartbeats 64000000
set_option linter.all false
namespace Go.Proofs.YtollifnnpihfdaaGreatDoor
open Go.RowKit
def WhC (f:FuncId) (spV:Array Value) (d i:Int) (cwd:ByteArray) (w:World):Prop:=∀ W,Below w.heap.size w W→Calls Tryz.prog f #[.agg spV,flV d i] W fun e w' =>(∃ b:Bool,e= .returned (.tuple #[.string cwd, .bool b]))∧Below W.heap.size W w'
def Ef (L:List Rc) (w:World) (e:Ending) (w' :World):Prop:=∃ (A:Option Addr) (n c:Nat),e= .returned (.slice A n c)∧n=L.length∧dK w' w.heap.size (.slice A n c) L∧Below w.heap.size w w'
abbrev vdC (sel:Bool) (ru:Int) (key:ByteArray):Array Value:=#[.bool sel, .int .i64 ru, .string key]
structure EvS (m:Mk) (spV:Array Value) (sel:Bool) (ru:Int) (key:ByteArray) (w:World) (L:List Rc) (W:World):Prop where
 g:EvG m W w.heap.size (w.heap.size+4) L
 s:Blk W (w.heap.size+1) 31 spV
 c:Blk W (w.heap.size+2) 54 m.X
 v:Blk W (w.heap.size+3) 63 (vdC sel ru key)
 b:Below w.heap.size w W
section
variable {m:Mk} {spV:Array Value} {sel:Bool} {ru:Int} {key:ByteArray} {w W W' :World} {L L' :List Rc}
theorem EvS.below (h:EvS m spV sel ru key w L W) (hb:Below W.heap.size W W'):EvS m spV sel ru key w L W' :=⟨h.g.below hb,Blk.below h.s hb,Blk.below h.c hb,Blk.below h.v hb,aa h.b hb⟩
theorem EvS.add (h:EvS m spV sel ru key w L W) {e:Ending} {W1:World} (hw:Below W.heap.size W W1) (ha:yV m w.heap.size (w.heap.size+4) L' W1 e W'):EvS m spV sel ru key w L' W' :=by
 obtain ⟨_,h1,h2,h3⟩:=ha;exact ⟨h1,h3 _ _ _ (by decide) (by omega) (Blk.below h.s hw),h3 _ _ _ (by decide) (by omega) (Blk.below h.c hw),h3 _ _ _ (by decide) (by omega) (Blk.below h.v hw),(aa h.b hw).trans h2⟩
end
theorem fO (m:Mk):∀ (xs:List (Int×List Pr)) (L:List Rc),(dx m L xs).length≤L.length+xs.length
 | [],_=>Nat.le_refl _
 | x :: xs,L=>by
  have h:=fO m xs (jU m L x.1 x.2);have h2:(jU m L x.1 x.2).length≤L.length+1:=by unfold jU;split <;> simp
  rw [List.length_cons];show (dx m (jU m L x.1 x.2) xs).length≤_;omega
def upTo (m:Mk) (key:ByteArray) (args:List ByteArray) (cwd:ByteArray) (k:Nat):List (Int×List Pr):=
 [(1300,sD m key)] ++ (if m.r.n=1 then [(1309,wG args)] else []) ++ (if m.r.n=19∧args.length=1 then [(1306,CR m (args.headD ⟨#[]⟩))] else [])
  ++ (if m.is.length=0 then [] else [(1307,CS cwd)]) ++ (m.is.mapIdx (fun i p=>(1302,yX i p.1 p.2))).take k
theorem zg (m:Mk) (key:ByteArray) (args:List ByteArray) (cwd:ByteArray):upTo m key args cwd m.is.length=xG m key args cwd:=by
 unfold upTo xG;rw [List.take_of_length_le (by simp)]
theorem wJ (m:Mk) (key:ByteArray) (args:List ByteArray) (cwd:ByteArray) {k:Nat} (hk:k < m.is.length):upTo m key args cwd (k+1)=upTo m key args cwd k ++ [(1302,yX k m.is[k].1 m.is[k].2)]:=by
 unfold upTo;rw [List.take_add_one,List.getElem?_eq_getElem (by simpa using hk),List.getElem_mapIdx,List.append_assoc _ _ [_]];rfl
theorem zh (m:Mk) (key:ByteArray) (args:List ByteArray) (cwd:ByteArray) (k:Nat) (hk:k≤m.is.length) (h:m.is.length≤1000):(upTo m key args cwd k).length≤1004:=by
 unfold upTo;have h1:((m.is.mapIdx (fun i p=>((1302:Int),yX i p.1 p.2))).take k).length≤1000:=by rw [List.length_take];omega
 simp only [List.length_append];split <;> split <;> split <;> simp only [List.length_cons,List.length_nil] <;> omega
theorem CZ (s:ByteArray):CS s= [soP ⟨#[99,119,100]⟩ s]:=rfl
theorem Da (m:Mk) (s:ByteArray):CR m s= [txP ⟨#[104,111,115,116]⟩ s,nuP ⟨#[112,111,114,116]⟩ (m.cx.a 0)]:=rfl
def evA (m:Mk) (key:ByteArray):List Rc:=dx m [] [(1300,sD m key)]
def evB (m:Mk) (key:ByteArray) (args:List ByteArray):List Rc:=dx m (evA m key) (if m.r.n=1 then [(1309,wG args)] else [])
def evC (m:Mk) (key:ByteArray) (args:List ByteArray):List Rc:=dx m (evB m key args) (if m.r.n=19∧args.length=1 then [(1306,CR m (args.headD ⟨#[]⟩))] else [])
def evD (m:Mk) (key:ByteArray) (args:List ByteArray) (cwd:ByteArray):List Rc:=dx m (evC m key args) (if m.is.length=0 then [] else [(1307,CS cwd)])
theorem GL (m:Mk) (key:ByteArray) (args:List ByteArray) (cwd:ByteArray):evD m key args cwd=dx m [] (upTo m key args cwd 0):=by
 unfold evD evC evB evA upTo;rw [List.take_zero,List.append_nil,fM,fM,fM]
theorem Db (m:Mk) (key:ByteArray) (args:List ByteArray):(evA m key).length≤1∧(evB m key args).length≤2∧(evC m key args).length≤3:=by
 have h1:(evA m key).length≤1:=fO m [(1300,sD m key)] [];have h2:(evB m key args).length≤2:=by
  refine Nat.le_trans (fO m _ (evA m key)) ?_;split <;> simp only [List.length_cons,List.length_nil] <;> omega
 refine ⟨h1,h2,Nat.le_trans (fO m _ (evB m key args)) ?_⟩;split <;> simp only [List.length_cons,List.length_nil] <;> omega
theorem Dc (m:Mk) (key:ByteArray) (args:List ByteArray) (h:m.r.n=1):evB m key args=jU m (evA m key) 1309 (wG args):=by unfold evB;rw [if_pos h];rfl
theorem GM (m:Mk) (key:ByteArray) (args:List ByteArray) (h:¬ m.r.n=1):evB m key args=evA m key:=by unfold evB;rw [if_neg h];rfl
theorem De (m:Mk) (key:ByteArray) (s:ByteArray) (h:m.r.n=19):evC m key [s]=jU m (evB m key [s]) 1306 (CR m s):=by unfold evC;rw [if_pos ⟨h,rfl⟩];rfl
theorem GN (m:Mk) (key:ByteArray) (args:List ByteArray) (h:¬ (m.r.n=19∧args.length=1)):evC m key args=evB m key args:=by unfold evC;rw [if_neg h];rfl
theorem Df (m:Mk) (key:ByteArray) (args:List ByteArray) (cwd:ByteArray) (h:¬ m.is.length=0):evD m key args cwd=jU m (evC m key args) 1307 (CS cwd):=by unfold evD;rw [if_neg h];rfl
theorem GQ (m:Mk) (key:ByteArray) (args:List ByteArray) (cwd:ByteArray) (h:m.is.length=0):evD m key args cwd=evC m key args:=by unfold evD;rw [if_pos h];rfl
def evI (m:Mk) (key:ByteArray) (args:List ByteArray) (cwd:ByteArray) (k:Nat):List Rc:=dx m [] (upTo m key args cwd k)
theorem zi (m:Mk) (key:ByteArray) (args:List ByteArray) (cwd:ByteArray):evI m key args cwd 0=evD m key args cwd:=(GL m key args cwd).symm
theorem zk (m:Mk) (key:ByteArray) (args:List ByteArray) (cwd:ByteArray) {k:Nat} (hk:k < m.is.length):evI m key args cwd (k+1)=jU m (evI m key args cwd k) 1302 (yX k m.is[k].1 m.is[k].2):=by
 unfold evI;rw [wJ m key args cwd hk,fM];rfl
theorem wK (m:Mk) (key:ByteArray) (args:List ByteArray) (cwd:ByteArray) (k:Nat) (hk:k≤m.is.length) (h:m.is.length≤1000):(evI m key args cwd k).length≤1004:=by
 have h1:=fO m (upTo m key args cwd k) [];have h2:=zh m key args cwd k hk h;unfold evI;rw [List.length_nil] at h1;omega
theorem Dg (m:Mk) (key:ByteArray) (args:List ByteArray) (cwd:ByteArray):evR m key args cwd=if evI m key args cwd m.is.length= [] then [] else evI m key args cwd m.is.length ++ [⟨1320,m.ti,0, []⟩]:=by
 unfold evR evI;rw [zg]
theorem bU.gsE {w:World} {g:Nat} {c:Ctx} {r:bN} {it:Value} (h:bU w g c r it):w.cell? ⟨g,21,none⟩=some r.gs.v:=h.cell 21
theorem GR {w:World} {g:Nat} {A:Option Addr} {n c:Nat} {Am:Option Addr} {nm cm:Nat} (h:Blk w g 31 #[slV A n c,slV Am nm cm]):(loadVar 31 ⟨g,0,none⟩).run Tryz.prog w= .ok (.agg #[slV A n c,slV Am nm cm]) w:=run_loadVar_row w g _ _ _ _ _ h Tryz.underlying31 rfl (by show _=some 2;kernel_rfl)
theorem GU {w:World} {g:Nat} {m:Mk} (h:Blk w g 41 m.P):(loadVar 41 ⟨g,0,none⟩).run Tryz.prog w= .ok (.agg m.P) w:=run_loadVar_row w g _ _ _ _ _ h Tryz.underlying41 rfl (by show _=some 2;kernel_rfl)
theorem wL (w:World) (cs ds es fs:Array Value) (s t u v:TypeId):Below w.heap.size w ((((w.alloc (.cells cs s)).alloc (.cells ds t)).alloc (.cells es u)).alloc (.cells fs v))∧Blk ((((w.alloc (.cells cs s)).alloc (.cells ds t)).alloc (.cells es u)).alloc (.cells fs v)) w.heap.size s cs∧Blk ((((w.alloc (.cells cs s)).alloc (.cells ds t)).alloc (.cells es u)).alloc (.cells fs v)) (w.heap.size+1) t ds∧Blk ((((w.alloc (.cells cs s)).alloc (.cells ds t)).alloc (.cells es u)).alloc (.cells fs v)) (w.heap.size+2) u es∧Blk ((((w.alloc (.cells cs s)).alloc (.cells ds t)).alloc (.cells es u)).alloc (.cells fs v)) (w.heap.size+3) v fs∧((((w.alloc (.cells cs s)).alloc (.cells ds t)).alloc (.cells es u)).alloc (.cells fs v)).heap.size=w.heap.size+4:=by
 have s1:(w.alloc (.cells cs s)).heap.size=w.heap.size+1:=by simp
 have s2:((w.alloc (.cells cs s)).alloc (.cells ds t)).heap.size=w.heap.size+2:=by simp
 have s3:(((w.alloc (.cells cs s)).alloc (.cells ds t)).alloc (.cells es u)).heap.size=w.heap.size+3:=by simp
 have h1:=Blk.new (w.alloc (.cells cs s)) ds t;have h2:=Blk.new ((w.alloc (.cells cs s)).alloc (.cells ds t)) es u;have h3:=Blk.new (((w.alloc (.cells cs s)).alloc (.cells ds t)).alloc (.cells es u)) fs v;rw [s1] at h1;rw [s2] at h2;rw [s3] at h3;exact ⟨((((Below.refl _ _).alloc (Nat.le_refl _) _).alloc (by rw [s1];omega) _).alloc (by rw [s2];omega) _).alloc (by rw [s3];omega) _,(((Blk.new w cs s).alloc _).alloc _).alloc _,(h1.alloc _).alloc _,h2.alloc _,h3,by simp⟩
attribute [local irreducible] bE aO Mk.C evA evB evC evD evI jU sD wG CR CS yX txP soP
attribute [-go_sem] loadVar
attribute [local go_sem] lv3 Ea Eb yY IU GI
theorem L9 (m:Mk) (hok:m.Ok) (key:ByteArray) (sel:Bool) (ru:Int) (args:List ByteArray) (hn:m.r.gs.n=args.length) (nS:args.length≤1000) (As:Option Addr) (ns cs:Nat) (Am:Option Addr) (nm cm:Nat) (cwd:ByteArray) (w:World)
  (hr:lC w w.heap.size m.A m.rs) (hi:cz w w.heap.size m.Ai m.is) (hA:AtE qb w w.heap.size m.r.gs.A args) (hc:Calls10 w) (hw:WhC 49 #[slV As ns cs,slV Am nm cm] m.r.d m.r.i cwd w):
  Calls Tryz.prog 17 #[.agg m.P, .agg #[slV As ns cs,slV Am nm cm], .agg m.X, .agg (vdC sel ru key), .int .i64 m.ti] w (Ef (evR m key args cwd) w):=by
 have HOK:=Hd hok;have HN:=Hd hn;have HFW:=Hd nS;have HA:=Hd hA;have HW:=Hd hw;have HC:=Hd (fun (W:World) (h:Below w.heap.size w W)=>hc.below h (Nat.le_refl _));have HLN:=Hd (Db m key args);obtain ⟨b0,p0,s0,c0,v0,z0⟩:=wL w m.P #[slV As ns cs,slV Am nm cm] m.X (vdC sel ru key) 41 31 54 63;have hg:=wI m ((((w.alloc (.cells m.P 41)).alloc (.cells #[slV As ns cs,slV Am nm cm] 31)).alloc (.cells m.X 54)).alloc (.cells (vdC sel ru key) 63)) w.heap.size b0.size (hr.keep b0 (Nat.le_refl _)) (hi.keep b0 (Nat.le_refl _)) hok;have BA:=(Below.refl ((((w.alloc (.cells m.P 41)).alloc (.cells #[slV As ns cs,slV Am nm cm] 31)).alloc (.cells m.X 54)).alloc (.cells (vdC sel ru key) 63)).heap.size ((((w.alloc (.cells m.P 41)).alloc (.cells #[slV As ns cs,slV Am nm cm] 31)).alloc (.cells m.X 54)).alloc (.cells (vdC sel ru key) 63))).alloc (Nat.le_refl _) (.cells (m.C (.slice none 0 0)) 124);rw [z0] at hg;have S0:=Hd (show EvS m #[slV As ns cs,slV Am nm cm] sel ru key w [] (((((w.alloc (.cells m.P 41)).alloc (.cells #[slV As ns cs,slV Am nm cm] 31)).alloc (.cells m.X 54)).alloc (.cells (vdC sel ru key) 63)).alloc (.cells (m.C (.slice none 0 0)) 124)) from ⟨hg,Blk.below s0 BA,Blk.below c0 BA,Blk.below v0 BA,aa b0 BA⟩);have hp0:=GU p0;have hc0:=je c0;have Z0:=Hd z0;clear b0 p0 s0 c0 v0 hg BA hr hi hA hc hw hn nS hok z0;go_in;go_upto_region 2 with (first | (refine wpList_buildTo rfl 124 _ rfl (some 19) rfl (m.C (.slice none 0 0)) (by as_aux_lemma=>kernel_rfl) ?_) | (refine wpList_boxTo rfl 124 (.tmp 19) rfl (some 20) rfl (w.heap.size+4) Z0.o (m.C (.slice none 0 0)) (by rfl) ?_));clear hp0 hc0 Z0;generalize ((((w.alloc (.cells m.P 41)).alloc (.cells #[slV As ns cs,slV Am nm cm] 31)).alloc (.cells m.X 54)).alloc (.cells (vdC sel ru key) 63)).alloc (.cells (m.C (.slice none 0 0)) 124)=w0 at *;have v2:=S0.o.v.cell 2;go_wp2_with fail;clear v2;refine (KA m w.heap.size (w.heap.size+4) [] key (by simp) w0 S0.o.g (HC.o _ S0.o.b)).mono ?_;rintro e w1 ha;have S1:=Hd (show EvS m #[slV As ns cs,slV Am nm cm] sel ru key w (evA m key) w1 from S0.o.add (Below.refl _ _) (by unfold evA dx dx;exact ha));obtain ⟨rfl,_⟩:=ha;clear S0;have c15:=bU.num S1.o.c;go_upto_if 28 with fail;go_cut [] (fun wx=>EvS m #[slV As ns cs,slV Am nm cm] sel ru key w (evB m key args) wx);case first=>
  by_cases h1:m.r.n=1;case pos=>
   have HB:=Hd (Dc m key args h1);go_wp2_with fail;refine (GJ m w.heap.size (w.heap.size+4) (evA m key) (by have:=HLN.o.1;omega) args HN.o HFW.o w1 S1.o.g (HA.o.keep S1.o.b (Nat.le_refl _))).mono ?_;rintro e w2 ha;have S2:=Hd (show EvS m #[slV As ns cs,slV Am nm cm] sel ru key w (evB m key args) w2 from S1.o.add (Below.refl _ _) (by rw [HB.o];exact ha));obtain ⟨rfl,_⟩:=ha;go_wp2_with fail;go_meet;exact S2.o
  case neg=>
   have HB:=Hd (GM m key args h1);go_wp2_with fail;go_meet;rw [HB.o];exact S1.o
 case rest=>
 generalize wc=wB at *;have S2:=Hd hcut;clear hcut S1 c15;have c15:=bU.num S2.o.c;have c21:=bU.gsE S2.o.c;generalize hq:m.r.gs=q at *;obtain ⟨qA,qn,qc⟩:=q;simp only at HN HA;have HQ:=Hd hq;clear hq;have c22:wB.cell? ⟨w.heap.size+2,21,none⟩=some (.slice qA qn qc):=c21;clear c21;go_upto_region 5 with fail;go_cut [41] (fun u wx=>u= .bool (decide (m.r.n=19∧args.length=1))∧wB=wx);case first=>
  by_cases h1:m.r.n=19;case pos=>
   have b1:=(bH h1).1;by_cases h2:qn=1;case pos=>
    subst h2;go_wp2_with fail;go_meet;exact ⟨by rw [decide_eq_true (And.intro h1 HN.o.symm)],rfl⟩
   case neg=>
    have b2:=(aN (show (qn:Int)≠1 by omega)).1;go_wp2_with fail;go_meet;exact ⟨by rw [decide_eq_false (fun h=>h2 (HN.o.trans h.2))],rfl⟩
  case neg=>
   have b1:=(aN h1).1;go_wp2_with fail;go_meet;exact ⟨by rw [decide_eq_false (fun h=>h1 h.1)],rfl⟩
 case rest=>
 obtain ⟨rfl,rfl⟩:=hcut;generalize hdq:decide (m.r.n=19∧args.length=1)=dq at *;go_upto_if 41 with fail;go_cut [] (fun wx=>EvS m #[slV As ns cs,slV Am nm cm] sel ru key w (evC m key args) wx);case first=>
  cases dq with
  | true=>
   obtain ⟨h1,h2⟩:=of_decide_eq_true hdq;have HL:=HN.o
   match args,h2 with
   | [s],_=>
    have HC2:=Hd (De m key s h1);obtain rfl:qn=1:=HL;obtain ⟨ad,rfl,hab,hcx⟩:=HA.o 0 (by simp);have hs:=ny (a:=ad.add (0 * 1)) hcx;rw [show ad.add (0 * 1)=ad by simp [Addr.add]] at hs;have HS:=Hd hs;have s0:=(S2.o.b.cell (p:=ad) hab).trans hs;clear hs hcx hdq;go_upto_region 6 with fail;refine wp_region_held_drew (S:=(fun W' =>((Blk W' (w.heap.size+2) 54 m.X∧W'.cell? ⟨w.heap.size+2,21,none⟩=some (.slice (some ad) 1 qc))∧W'.cell? ad=some (.string s))∧Below w.heap.size w W')) (by kernel_rfl) ⟨⟨⟨Blk.below S2.o.c (Below.refl _ _).drew,c22⟩,s0⟩,S2.o.b.drew⟩ (fun hHeld=>?_);have S3:=Hd (S2.o.below (Below.refl wB.heap.size wB).drew);clear S2 s0 c15 c22;generalize wB.drew=wd at *;refine tk hHeld 0 ?_ ?_ (tk hHeld 1 ?_ ?_ (tk hHeld 2 ?_ ?_ (tk hHeld 3 ?_ ?_ (tk hHeld 4 ?_ ?_ (tk hHeld 5 ?_ ?_ (tk hHeld 7 ?_ ?_ (tk hHeld 8 ?_ ?_ (tk hHeld 9 ?_ ?_ (tk hHeld 10 ?_ ?_ ?_)))))))));iterate 10
     rotate_left
     · intro W hSw;have kk:=hSw.1.1.2;have Kz:=hSw.1.2;have LZ:=bU.a0 hSw.1.1.1;go_simp;try (with_reducible rfl)
    refine rdy1 6 (fun K hK=>?_);go_simp;go_at_call 47;refine (jL _ _ _).mono ?_;rintro e wa ⟨rfl,hb⟩;have hh:=And.intro (And.intro (And.intro (Blk.below hHeld.1.1.1 hb) ((hb.cell (block_lt_of_cell hHeld.1.1.2)).trans hHeld.1.1.2)) ((hb.cell (block_lt_of_cell hHeld.1.2)).trans hHeld.1.2)) (aa hHeld.2 hb);have S4:=Hd (S3.o.below hb);clear hb S3;go_simp;refine hK.o _ _ hh (fun hHeld=>?_);clear hK K;clear hh;refine rdy1 11 (fun K hK=>?_);go_simp;go_at_call 48;refine (Kv _ _ _).mono ?_;rintro e wb ⟨rfl,hb⟩;have hh:=And.intro (And.intro (And.intro (Blk.below hHeld.1.1.1 hb) ((hb.cell (block_lt_of_cell hHeld.1.1.2)).trans hHeld.1.1.2)) ((hb.cell (block_lt_of_cell hHeld.1.2)).trans hHeld.1.2)) (aa hHeld.2 hb);have S5:=Hd (S4.o.below hb);clear hb S4;go_simp;refine hK.o _ _ hh (fun hHeld=>?_);clear hK K;clear hh;refine rdy1 12 (fun K hK=>?_);have hb:=(Below.refl wb.heap.size wb).alloc (Nat.le_refl _) (.cells #[.string (txP ⟨#[104,111,115,116]⟩ s).nm, .int .i64 (txP ⟨#[104,111,115,116]⟩ s).kd, .int .i64 (txP ⟨#[104,111,115,116]⟩ s).nu, .string (txP ⟨#[104,111,115,116]⟩ s).tx, .string ⟨#[112,111,114,116]⟩, .int .i64 1, .int .i64 (m.cx.a 0), .string ⟨#[]⟩] 79);have hh:=And.intro (And.intro (And.intro (Blk.below hHeld.1.1.1 hb) ((hb.cell (block_lt_of_cell hHeld.1.1.2)).trans hHeld.1.1.2)) ((hb.cell (block_lt_of_cell hHeld.1.2)).trans hHeld.1.2)) (aa hHeld.2 hb);have RW:=Hd (jf EP wb #[.string (txP ⟨#[104,111,115,116]⟩ s).nm, .int .i64 (txP ⟨#[104,111,115,116]⟩ s).kd, .int .i64 (txP ⟨#[104,111,115,116]⟩ s).nu, .string (txP ⟨#[104,111,115,116]⟩ s).tx, .string ⟨#[112,111,114,116]⟩, .int .i64 1, .int .i64 (m.cx.a 0), .string ⟨#[]⟩] 79 [(txP ⟨#[104,111,115,116]⟩ s),nuP ⟨#[112,111,114,116]⟩ (m.cx.a 0)] rfl (B:=(wb.alloc (.cells #[.string (txP ⟨#[104,111,115,116]⟩ s).nm, .int .i64 (txP ⟨#[104,111,115,116]⟩ s).kd, .int .i64 (txP ⟨#[104,111,115,116]⟩ s).nu, .string (txP ⟨#[104,111,115,116]⟩ s).tx, .string ⟨#[112,111,114,116]⟩, .int .i64 1, .int .i64 (m.cx.a 0), .string ⟨#[]⟩] 79)).heap.size) (by simp));have S6:=Hd (S5.o.below hb);clear hb S5;go_simp;refine hK.o _ _ hh (fun hHeld=>?_);clear hK K;clear hh;refine rdy1 13 (fun K hK=>?_);go_simp;go_at_call 46;refine (wF m w.heap.size (w.heap.size+4) (evB m key [s]) 1306 (some ⟨wb.heap.size,0,none⟩) 2 2 [(txP ⟨#[104,111,115,116]⟩ s),nuP ⟨#[112,111,114,116]⟩ (m.cx.a 0)] rfl (by omega) (by have:=HLN.o.2.1;omega) _ S6.o.g RW.o).mono ?_;rintro e wz ha;have S7:=Hd (show EvS m #[slV As ns cs,slV Am nm cm] sel ru key w (evC m key [s]) wz from S6.o.add (Below.refl _ _) (by rw [HC2.o,Da];exact ha));obtain ⟨rfl,_⟩:=ha;have hh:=And.intro (And.intro (And.intro S7.o.c (by have:=bU.gsE S7.o.c;rw [HQ.o] at this;exact this)) ((S7.o.b.cell (p:=ad) hab).trans HS.o)) S7.o.b;go_simp;refine hK.o _ _ hh (fun hHeld=>?_);clear hK K;clear hh;refine wpAnyH_done (by kernel_rfl) ?_ _;go_simp;go_wp2_with fail;go_meet;exact S7.o
  | false=>
   have HC2:=Hd (GN m key args (of_decide_eq_false hdq));go_wp2_with fail;go_meet;rw [HC2.o];exact S2.o
 case rest=>
 generalize wc=wC at *;have S3:=Hd hcut;clear hcut S2 c15 c22;have c23:=bU.items S3.o.c;go_upto_if 59 with fail;go_cut [] (fun wx=>EvS m #[slV As ns cs,slV Am nm cm] sel ru key w (evD m key args cwd) wx);case first=>
  by_cases h1:m.is.length=0;case pos=>
   have HD:=Hd (GQ m key args cwd h1);have b1:¬ (m.ni:Int) > 0:=(by have:=HOK.o.hi;omega);go_wp2_with fail;go_meet;rw [HD.o];exact S3.o
  case neg=>
   have HD:=Hd (Df m key args cwd h1);have b1:(m.ni:Int) > 0:=(by have:=HOK.o.hi;omega);have hls:=GR S3.o.s;have c9:=bU.c9 S3.o.c;have c10:=bU.c10 S3.o.c;have hlf:=CK c9 c10;go_wp2_with fail;refine (HW.o _ S3.o.b).mono ?_;rintro e w4 ⟨⟨bb,rfl⟩,hb⟩;have S4:=Hd (S3.o.below hb);clear hb hls c9 c10 hlf;go_wp2_with fail;refine (pg _ _ _).mono ?_;rintro e w5 ⟨rfl,hb⟩;have S5:=Hd (S4.o.below hb);clear hb S4;have RW:=Hd (jf EP w5 #[.string (soP ⟨#[99,119,100]⟩ cwd).nm, .int .i64 (soP ⟨#[99,119,100]⟩ cwd).kd, .int .i64 (soP ⟨#[99,119,100]⟩ cwd).nu, .string (soP ⟨#[99,119,100]⟩ cwd).tx] 79 [(soP ⟨#[99,119,100]⟩ cwd)] rfl (B:=(w5.alloc (.cells #[.string (soP ⟨#[99,119,100]⟩ cwd).nm, .int .i64 (soP ⟨#[99,119,100]⟩ cwd).kd, .int .i64 (soP ⟨#[99,119,100]⟩ cwd).nu, .string (soP ⟨#[99,119,100]⟩ cwd).tx] 79)).heap.size) (by simp));have S6:=Hd (S5.o.below ((Below.refl w5.heap.size w5).alloc (Nat.le_refl _) (.cells #[.string (soP ⟨#[99,119,100]⟩ cwd).nm, .int .i64 (soP ⟨#[99,119,100]⟩ cwd).kd, .int .i64 (soP ⟨#[99,119,100]⟩ cwd).nu, .string (soP ⟨#[99,119,100]⟩ cwd).tx] 79)));go_wp2_with fail;refine (wF m w.heap.size (w.heap.size+4) (evC m key args) 1307 (some ⟨w5.heap.size,0,none⟩) 1 1 [(soP ⟨#[99,119,100]⟩ cwd)] rfl (by omega) (by have:=HLN.o.2.2;omega) _ S6.o.g RW.o).mono ?_;rintro e w6 ha;have S7:=Hd (show EvS m #[slV As ns cs,slV Am nm cm] sel ru key w (evD m key args cwd) w6 from S6.o.add (Below.refl _ _) (by rw [HD.o,CZ];exact ha));obtain ⟨rfl,_⟩:=ha;go_wp2_with fail;go_meet;exact S7.o
 case rest=>
 generalize wc=wD at *;have S4:=Hd (show EvS m #[slV As ns cs,slV Am nm cm] sel ru key w (evI m key args cwd 0) wD by rw [zi];exact hcut);clear hcut S3 c23;have c23:=bU.items S4.o.c;go_wp2_with fail;clear c23;go_loopw [76] (fun ix wr=>∃ k:Nat,k≤m.is.length∧ix= .int .i64 (k:Int)∧Hid (EvS m #[slV As ns cs,slV Am nm cm] sel ru key w (evI m key args cwd k) wr)) (fun ix _=>m.is.length - (intOf ix).toNat);case atStart=>exact ⟨0,Nat.zero_le _,rfl,S4⟩
 case round=>
  obtain ⟨k,hk,rfl,HS⟩:=hrel;clear S4;by_cases hlt:k < m.is.length;case pos=>
   have HNX:=Hd (zk m key args cwd hlt);have HIL:=Hd (wK m key args cwd k hk (by rw [← HOK.o.hi];exact HOK.o.few));have k0:(0:Int)≤(k:Int):=(by omega);have kn:(k:Int) < (m.ni:Int):=(by have:=HOK.o.hi;omega);obtain ⟨ad,hAi,hab,hcx⟩:=HS.o.g.items k hlt;generalize m.is[k]=yr at *;obtain ⟨y,r⟩:=yr;rw [hAi];have hli:=CG (a:=ad.add (k * 13)) hcx;have hk9:k≤1000000:=(by have:=HOK.o.hi;have:=HOK.o.few;omega);obtain ⟨q7,q8⟩:=bg hk9 (Nat.le_refl _);have X0:=Hd (Blk.new wr kG 73);have X1:=Hd (Blk.row X0.o (aO y r));have BX:=Hd (show Below wr.heap.size wr ((wr.alloc (.cells kG 73)).setRow wr.heap.size (aO y r)) from ai ((Below.refl _ _).alloc (Nat.le_refl _) _) (Nat.le_refl _) _);have S5:=Hd (HS.o.below BX.o);have Q7:=Hd (And.intro q7 q8);clear q7 q8 HS hcx;go_upto_region 13 with ((with_reducible refine ae ?_ 73 (.tmp 15) (.tmp 80) ?_ X0.o (aO y r) ?_ ?_ ?_ ?_ ?_ ?_);(iterate 4 rfl);(exact iH _ _);(exact yo _ _);(exact kg _ _));clear hli X0;have hl2:=Au X1.o;generalize (wr.alloc (.cells kG 73)).setRow wr.heap.size (aO y r)=w2 at *;go_wp2_with fail;clear hl2;refine (GK m w.heap.size (w.heap.size+4) (evI m key args cwd k) (by have:=HIL.o;omega) k y r w2 S5.o.g).mono ?_;rintro e w3 ha;have S6:=Hd (show EvS m #[slV As ns cs,slV Am nm cm] sel ru key w (evI m key args cwd (k+1)) w3 from S5.o.add (Below.refl _ _) (by rw [HNX.o];exact ha));obtain ⟨rfl,_⟩:=ha;obtain ⟨q7,q8⟩:=Q7.o;go_wp2_with fail;clear q7 q8;go_roundw;case rel=>exact ⟨k+1,hlt,by go_num,S6⟩
   case measure=>exact aL hlt _ rfl
  case neg=>
   have hke:k=m.is.length:=(by omega);have kn:¬ (k:Int) < (m.ni:Int):=(by have:=HOK.o.hi;omega);have HIL:=Hd (wK m key args cwd k hk (by rw [← HOK.o.hi];exact HOK.o.few));have GV:=Hd (Dg m key args cwd);rw [← hke] at GV;obtain ⟨A0,n0,c0,r28,hn0,hro⟩:=HS.o.g.recs;generalize evI m key args cwd k=LL at *;have HRO:=Hd hro;have HN0:=Hd hn0;clear hro hn0;by_cases hz:LL= [];case pos=>
    have n00:(n0:Int)=0:=(by rw [HN0.o,hz];rfl);have b0:=(bH n00).1;go_wp2_with fail;go_ret;exact ⟨none,0,0,rfl,by rw [GV.o,if_pos hz];rfl,by rw [GV.o,if_pos hz];exact dK.nil _ _,HS.o.b⟩
   case neg=>
    have hlz:LL.length≠0:=fun e=>hz (List.eq_nil_of_length_eq_zero e);have b0:=(aN (show (n0:Int)≠0 by rw [HN0.o];omega)).1;obtain ⟨xs,exs,ho,hp⟩:=HRO.o;have HXL:=Hd (show xs.length+1≤1000000 by have:=HIL.o;rw [← exs,List.length_map] at this;omega);have RW:=Hd (aI ER wr #[.int .i64 1320, .int .i64 m.ti, .int .i64 0, .slice none 0 0] 77 (⟨⟨1320,m.ti,0, []⟩,none,0⟩:Rm) rfl (Nat.lt_succ_self wr.heap.size));have HO2:=Hd (ho.alloc (.cells #[.int .i64 1320, .int .i64 m.ti, .int .i64 0, .slice none 0 0] 77));have HP2:=Hd (fun x hx=>(hp x hx).alloc (.cells #[.int .i64 1320, .int .i64 m.ti, .int .i64 0, .slice none 0 0] 77));have HX:=Hd exs;have HB2:=Hd (HS.o.b.alloc HS.o.b.size (.cells #[.int .i64 1320, .int .i64 m.ti, .int .i64 0, .slice none 0 0] 77));clear ho hp exs;go_wp2_with (at_builtin;refine aj ER rfl (.tmp 95) (.tmp 98) rfl w.heap.size (.slice A0 n0 c0) xs rfl HO2.o (wr.heap.size+1) (some ⟨wr.heap.size,0,none⟩) 1 1 [⟨⟨1320,m.ti,0, []⟩,none,0⟩] rfl rfl RW.o HXL.o HB2.o.size ?_;intro v6 w6 ho6 hg6 iL);have HF:=Hd (show Ef (evR m key args cwd) w (.returned v6) w6 from by
     obtain ⟨A6,c6,e6,_⟩:=ho6.at;subst e6;refine ⟨A6,_,c6,rfl,by rw [GV.o,if_neg hz,List.length_append,List.length_append, ← HX.o,List.length_map];rfl,?_,HB2.o.grown hg6 HB2.o.size (fun q e=>HO2.o.ge q e)⟩;rw [GV.o,if_neg hz];exact dK.end (v:= .slice A0 n0 c0) ⟨xs,HX.o,HO2.o,HP2.o⟩ 1320 m.ti HX.o HO2.o HP2.o ho6 hg6)
    clear ho6 hg6 iL;go_ret;exact HF.o
end Go.Proofs.YtollifnnpihfdaaGreatDoor
