import Derived.Test.YtollifnnpihfdaaGreatDoorB43
import Derived.Great.Walk
set_option maxRecDepth 100000
set_option maxHeartbeats 64000000
set_option linter.all false
namespace Go.Proofs.YtollifnnpihfdaaGreatDoor
open Go.RowKit
theorem Aq {k:Nat} (h:k < 4):(⟨#[97]⟩:ByteArray) ++ ⟨(Lib.decDigits k).toArray⟩=jD k:=by
 have:k=0∨k=1∨k=2∨k=3:=by omega
 rcases this with rfl | rfl | rfl | rfl <;> decide+kernel
theorem Ar {k:Nat} (h:k < 4):(⟨(Lib.decDigits k).toArray⟩:ByteArray).size≤10:=by
 have:k=0∨k=1∨k=2∨k=3:=by omega
 rcases this with rfl | rfl | rfl | rfl <;> decide+kernel
def JN (k:Nat) (s:ByteArray):Pr:=txP (jD k) s
def qw (args:List ByteArray) (k:Nat):List Pr:=nuP ⟨#[97,114,103,99]⟩ args.length :: (args.take k).mapIdx JN
theorem Au {args:List ByteArray} {k:Nat} (h:k < args.length):qw args (k+1)=qw args k ++ [JN k (args[k]'h)]:=by
 unfold qw;rw [List.take_add_one,List.getElem?_eq_getElem h];show _ :: List.mapIdx JN (args.take k ++ [args[k]])=_;rw [List.mapIdx_concat,List.length_take,Nat.min_eq_left (by omega)];rfl
theorem xR (args:List ByteArray) (k:Nat) (h:k≤args.length):(qw args k).length=k+1:=by
 unfold qw;rw [List.length_cons,List.length_mapIdx,List.length_take,Nat.min_eq_left h]
theorem Eg (args:List ByteArray):uF args=qw args (min args.length 4):=by
 unfold uF qw;have e:args.take 4=args.take (min args.length 4):=by
  rcases Nat.le_total args.length 4 with h | h
  · rw [Nat.min_eq_left h,List.take_length,List.take_of_length_le h]
  · rw [Nat.min_eq_right h]
 rw [e];rfl
theorem Mk.c23 (m:Mk) (v:Value):(m.C v)[23]? =some m.r.gs.v:=rfl
attribute [local irreducible] Mk.C txP jD qw
attribute [-go_sem] loadVar
attribute [local go_sem] lv3 ET EU Ak JM
theorem Iy (a:Addr) (w:World):(loadVar 49 a).run Tryz.prog w=(load a).run Tryz.prog w:=by
 unfold loadVar;simp [go_sem]
attribute [local go_sem] Iy
theorem Iz (m:Mk) (base g:Nat) (L:List Rc) (hL:L.length < 2000) (args:List ByteArray) (hn:m.r.gs.n=args.length) (oO:args.length≤1000) (w:World) (hE:EvG m w base g L) (hA:AtE rq w base m.r.gs.A args):
  Calls Tryz.prog 45 #[.pointer (some ⟨g,0,none⟩)] w (Af m base g (kE m L 1309 (uF args)) w):=by
 have HLL:=Hd hL;have HE:=Hd hE;have HA:=Hd hA;have HFW:=Hd oO;obtain ⟨v,hb,_⟩:=hE.blk;have hlt:=hb.lt;have hbs:=hE.hg;have HEX:=Hd (Eg args);have c23:=(hb.cell 23).trans (m.c23 v);generalize hq:m.r.gs=q at *;obtain ⟨qA,qn,qc⟩:=q;simp only at hn hA HA;have c24:w.cell? ⟨g,23,none⟩=some (.slice qA qn qc):=c23;clear c23;have HN:=Hd hn;clear hb hE hA hL oO hn;go_in;go_wp2_with fail;clear c24;refine (eF ⟨#[97,114,103,99]⟩ (qn:Int) w).mono ?_;rintro e w1 ⟨rfl,hb1⟩;have CS0:=Hd (ax.lit EP w1 w.heap.size #[.string ⟨#[97,114,103,99]⟩, .int .i64 1, .int .i64 (qn:Int), .string ⟨#[]⟩] ⟨⟨#[97,114,103,99]⟩,1,(qn:Int),⟨#[]⟩⟩ rfl hb1.size);have B2:=Hd (hb1.alloc hb1.size (.cells #[.string ⟨#[97,114,103,99]⟩, .int .i64 1, .int .i64 (qn:Int), .string ⟨#[]⟩] 79));have O2:=Hd (show ax EP (w1.alloc (.cells #[.string ⟨#[97,114,103,99]⟩, .int .i64 1, .int .i64 (qn:Int), .string ⟨#[]⟩] 79)) w.heap.size (.slice (some ⟨w1.heap.size,0,none⟩) 1 1) (qw args 0) by
  have e:qw args 0= [⟨⟨#[97,114,103,99]⟩,1,(qn:Int),⟨#[]⟩⟩]:=by unfold qw nuP;rw [HN.o];rfl
  rw [e];exact CS0.o)
 clear hb1 CS0;obtain ⟨j,hj⟩:∃ j:Nat,j=min qn 4:=⟨_,rfl⟩;have hmin:min (qn:Int) 4=(j:Int):=by omega
 have hj4:j≤4:=by omega
 have hjn:j≤args.length:=by have:=HN.o;omega
 have HJ:=Hd (show min args.length 4=j by rw [hj,HN.o]);clear hj;have HMN:=Hd hmin;go_upto_block 0 with fail;generalize w1.alloc (.cells #[.string ⟨#[97,114,103,99]⟩, .int .i64 1, .int .i64 (qn:Int), .string ⟨#[]⟩] 79)=w2 at *;clear hmin;go_wp2_with fail;go_loopw [3,18] (fun v ix wr=>∃ (k:Nat) (A0:Option Addr) (n0 c0:Nat),k≤j∧v= .slice A0 n0 c0∧ix= .int .i64 (k:Int)∧Hid (ax EP wr w.heap.size (.slice A0 n0 c0) (qw args k))∧Hid (Below w.heap.size w wr)) (fun _ ix _=>j - (intOf ix).toNat);case atStart=>exact ⟨0,_,_,_,Nat.zero_le _,rfl,rfl,O2,B2⟩
 case round=>
  obtain ⟨k,A0,n0,c0,hk,rfl,rfl,HO,HB⟩:=hrel;clear O2 B2;by_cases hlt:k < j;case pos=>
   have hka:k < args.length:=(by omega);have k0:(0:Int)≤(k:Int):=(by omega);have kn:(k:Int) < (qn:Int):=(by have:=HN.o;omega);have kj:(k:Int) < (j:Int):=(by omega);have hk4:k < 4:=(by omega);obtain ⟨ad,rfl,hab,hcx⟩:=HA.o k hka;have HS0:=Hd (show w.cell? (ad.add k)=some (.string args[k]) by have h:=nY (a:=ad.add (k * 1)) hcx;rwa [Nat.mul_one] at h);have HNX:=Hd (Au hka);have HKL:=Hd (xR args k (by omega));obtain ⟨dg,hdg⟩:∃ dg:ByteArray,dg=⟨(Lib.decDigits k).toArray⟩:=⟨_,rfl⟩;have HDG:=Hd hdg;have HD:=Hd (show (⟨#[97]⟩:ByteArray) ++ dg=jD k by rw [hdg];exact Aq hk4);have hds:dg.size≤10:=(by rw [hdg];exact Ar hk4);clear hdg hcx;generalize args[k]=x at *;obtain ⟨p,hp⟩:∃ p:Pr,p=txP (⟨#[97]⟩ ++ dg) x:=⟨_,rfl⟩;have HP:=Hd (show p=JN k x by rw [hp,HD.o];rfl);have HT:=Hd (show TxC 47 (⟨#[97]⟩ ++ dg) x p by rw [hp];exact fun w=>kg _ x w);clear hp;have s0:=(HB.o.cell (p:=ad.add k) (by rw [ak];omega)).trans HS0.o;go_upto_region 5 with fail;have BD:=Hd (Below.refl wr.heap.size wr).drew;refine wp_region_held_drew (S:=(fun W' =>W'.cell? (ad.add k)=some (.string x))) (by kernel_rfl) (by exact s0) (fun hHeld=>?_);have O5:=Hd (HO.o.below BD.o);have B5:=Hd (aa HB.o BD.o);clear BD HO HB s0;generalize wr.drew=wd at *;refine tk hHeld 0 ?_ ?_ (tk hHeld 1 ?_ ?_ (tk hHeld 4 ?_ ?_ (tk hHeld 5 ?_ ?_ (tk hHeld 6 ?_ ?_ (tk hHeld 7 ?_ ?_ ?_)))));iterate 6
     rotate_left
     · intro w hSw;have hl:=hSw;go_simp;first | (with_reducible rfl) | (rw [if_neg (by first | omega | (simp;omega))])
   refine rdy1 2 (fun K hK=>?_);go_simp;go_at_call 93;refine (Tryz.strconv_Itoa_small k (by omega) wd).mono ?_;rintro e w9 ⟨rfl,e9⟩;subst e9;rw [← HDG.o];go_simp;refine hK.o _ _ hHeld (fun hHeld=>?_);clear hK K;have z1:¬ (9223372036854775807 < 1+dg.size):=(by omega);have z2:¬ (9223372036854775807 < (⟨#[97]⟩:ByteArray).size+dg.size):=(by show ¬ (9223372036854775807 < 1+dg.size);omega);refine tk hHeld 3 ?_ ?_ ?_;rotate_left
   · intro w hSw;go_simp;first | (with_reducible rfl) | (rw [if_neg (by first | omega | (simp;omega))])
   clear z1 z2;refine rdy1 8 (fun K hK=>?_);go_simp;go_at_call 47;refine (HT.o _).mono ?_;rintro e w4 ⟨rfl,hb⟩;have hh:=(hb.cell (p:=ad.add k) (by rw [ak];have:=B5.o.size;omega)).trans hHeld;have O6:=Hd (O5.o.below hb);have B6:=Hd (aa B5.o hb);clear hb O5 B5;go_simp;refine hK.o _ _ hh (fun hHeld=>?_);clear hK K hh;refine rdy1 9 (fun K hK=>?_);have BA:=Hd ((Below.refl w4.heap.size w4).alloc (Nat.le_refl _) (.cells #[.string p.nm, .int .i64 p.kd, .int .i64 p.nu, .string p.tx] 79));have hh:=(BA.o.cell (p:=ad.add k) (by rw [ak];have:=B6.o.size;omega)).trans hHeld;have O7:=Hd (O6.o.below BA.o);have B7:=Hd (aa B6.o BA.o);have RW:=Hd (aI EP w4 #[.string p.nm, .int .i64 p.kd, .int .i64 p.nu, .string p.tx] 79 p rfl (Nat.lt_succ_self w4.heap.size));go_simp;refine hK.o _ _ hh (fun hHeld=>?_);clear hK K hh O6 B6 BA;refine rdy1 10 (fun K hK=>?_);refine aQ EP (by rfl) (.tmp 21) (.tmp 30) (by rfl) w.heap.size (.slice A0 n0 c0) (qw args k) (by rfl) O7.o (w4.heap.size+1) (some ⟨w4.heap.size,0,none⟩) 1 1 [p] (by rfl) (by rfl) RW.o (by rw [HKL.o];simp;omega) B7.o.size ?_;intro v8 w8 ho8 hg8 vE;have B8:=Hd (B7.o.grown hg8 B7.o.size (fun q e=>O7.o.ge q e));have hh:w8.cell? (ad.add k)=some (.string x):=(hg8.cell_far _ (by rw [ak];have:=B7.o.size;omega) (by rw [ak];intro e;have:=O7.o.ge _ e.symm;omega)).trans hHeld;have ho9:ax EP w8 w.heap.size v8 (qw args (k+1)):=(by rw [HNX.o, ← HP.o];exact ho8);obtain ⟨A8,c8,e8,_⟩:=ho9.at;subst e8;generalize (qw args (k+1)).length=l8 at *;have O8:=Hd ho9;refine hK.o _ _ hh (fun hHeld=>?_);clear hK K hh hg8 vE ho8 ho9;refine tk hHeld 11 ?_ ?_ ?_;rotate_left
   · intro w hSw;go_simp;first | (with_reducible rfl) | (rw [if_neg (by first | omega | (simp;omega))])
   refine wpAnyH_done (by kernel_rfl) ?_ _;go_simp;obtain ⟨q7,q8⟩:=bq (show k≤1000000 by omega) (Nat.le_refl _);go_wp2_with fail;clear q7 q8;go_roundw;case rel=>exact ⟨k+1,_,_,_,hlt,rfl,by go_num,O8,B8⟩
   case measure=>exact aN hlt _ rfl
  case neg=>
   obtain rfl:k=j:=(by omega);have kj:¬ (k:Int) < (k:Int):=(by omega);obtain ⟨A9,c9,e9,hat⟩:=HO.o.at;injection e9 with e1 e2 e3;subst e1 e2 e3;have HKL:=Hd (xR args k hjn);have HAT:=Hd hat;clear hat;generalize hl9:(qw args k).length=l9 at *;have HL9:=Hd hl9;clear hl9;go_wp2_with fail;refine (xQ m base g L 1309 A0 l9 c0 (qw args k) HL9.o.symm (by have:=HKL.o;omega) HLL.o _ (HE.o.below HB.o) HAT.o).mono ?_;rintro e w3 ⟨rfl,hez,hbz,hkp⟩;go_wp2_with fail
   go_end0
   rw [HEX.o,HJ.o];exact ⟨rfl,hez,(HB.o.mono (by omega)).trans hbz,fun k t cs ht hkg hk=>hkp k t cs ht hkg (hk.below HB.o)⟩
end Go.Proofs.YtollifnnpihfdaaGreatDoor
namespace Go.Proofs.YtollifnnpihfdaaGreatDoor
open Go.RowKit
theorem Lv (m:Mk) (base g:Nat) (L:List Rc) (key:ByteArray) (hL:L.length < 2000) (w:World) (hE:EvG m w base g L) (hc:Calls10 w):
  Calls Tryz.prog 44 #[.pointer (some ⟨g,0,none⟩), .string key] w (Af m base g (kE m L 1300 (qp m key)) w):=by
 have h:=Lu m base g L key hL _ _ _ _ _ (fun w=>kg _ _ w) (fun w=>kg _ _ w) (fun w=>qo _ _ w) (fun w=>qo _ _ w) (fun w=>qo _ _ w) w hE hc;unfold qp nuP;rw [← hE.ok.hi];exact h
theorem IA (m:Mk) (base g:Nat) (L:List Rc) (hL:L.length < 2000) (i:Nat) (y:Itm) (r:bE) (w:World) (hE:EvG m w base g L):
  Calls Tryz.prog 51 #[.pointer (some ⟨g,0,none⟩), .int .i64 (i:Int),GA y r] w (Af m base g (kE m L 1302 (ug i y r)) w):=by
 have h:=Iw m base g L hL (i:Int) y r _ _ _ _ (fun w=>kg _ _ w) (fun w=>qo _ _ w) (fun w=>kg _ _ w) (fun w=>kg _ _ w) w hE;unfold ug nuP;exact h
theorem xS (m:Mk) (w:World) (base:Nat) (hb:base≤w.heap.size) (hr:yP w base m.A m.rs) (hi:cz w base m.Ai m.is) (ho:m.Ok):EvG m (w.alloc (.cells (m.C (.slice none 0 0)) 124)) base w.heap.size []:=by
 have hk:Below base w (w.alloc (.cells (m.C (.slice none 0 0)) 124)):=(Below.refl base w).alloc hb _;exact ⟨⟨_,Blk.new w _ _,eT.nil _ _⟩,hb,hr.keep hk (Nat.le_refl _),hi.keep hk (Nat.le_refl _),ho,Nat.zero_le _⟩
theorem EvG.recs {m:Mk} {w:World} {base g:Nat} {L:List Rc} (h:EvG m w base g L):∃ (A:Option Addr) (n c:Nat),w.cell? ⟨g,28,none⟩=some (.slice A n c)∧n=L.length∧eT w base (.slice A n c) L:=by
 obtain ⟨v,h1,h2⟩:=h.blk;obtain ⟨xs,e,ho,hp⟩:=h2;obtain ⟨A,c,rfl,_⟩:=ho.at;exact ⟨A,xs.length,c,(h1.cell 28).trans (m.c28 _),by rw [← e,List.length_map],xs,e,ho,hp⟩
theorem eT.end {w w' :World} {base:Nat} {v v' :Value} {L:List Rc} (h:eT w base v L) (t ti:Int) {xs:List Rm} (e:xs.map (·.r)=L) (ho:ax ER w base v xs) (hp:∀ x∈xs,ax EP w base x.sl x.r.ps) (hn:ax ER w' base v' (xs ++ [⟨⟨t,ti,0, []⟩,none,0⟩])) (hg:w.grownBy w' v.ownBlock):eT w' base v' (L ++ [⟨t,ti,0, []⟩]):=
 h.app ⟨⟨t,ti,0, []⟩,none,0⟩ e ho hp (ax.nil _ _) hn hg
def WhC (f:FuncId) (spV:Array Value) (d i:Int) (cwd:ByteArray) (w:World):Prop:=∀ W,Below w.heap.size w W→Calls Tryz.prog f #[.agg spV,flV d i] W fun e w' =>(∃ b:Bool,e= .returned (.tuple #[.string cwd, .bool b]))∧Below W.heap.size W w'
def Lx (L:List Rc) (w:World) (e:Ending) (w' :World):Prop:=∃ (A:Option Addr) (n c:Nat),e= .returned (.slice A n c)∧n=L.length∧eT w' w.heap.size (.slice A n c) L∧Below w.heap.size w w'
abbrev vdC (sel:Bool) (ru:Int) (key:ByteArray):Array Value:=#[.bool sel, .int .i64 ru, .string key]
structure EvS (m:Mk) (spV:Array Value) (sel:Bool) (ru:Int) (key:ByteArray) (w:World) (L:List Rc) (W:World):Prop where
 g:EvG m W w.heap.size (w.heap.size+4) L
 s:Blk W (w.heap.size+1) 31 spV
 c:Blk W (w.heap.size+2) 54 m.X
 v:Blk W (w.heap.size+3) 63 (vdC sel ru key)
 b:Below w.heap.size w W
section
variable {m:Mk} {spV:Array Value} {sel:Bool} {ru:Int} {key:ByteArray} {w W W' :World} {L L' :List Rc}
theorem EvS.below (h:EvS m spV sel ru key w L W) (hb:Below W.heap.size W W'):EvS m spV sel ru key w L W' :=⟨h.g.below hb,Blk.below h.s hb,Blk.below h.c hb,Blk.below h.v hb,aa h.b hb⟩
theorem EvS.add (h:EvS m spV sel ru key w L W) {e:Ending} {W1:World} (hw:Below W.heap.size W W1) (ha:Af m w.heap.size (w.heap.size+4) L' W1 e W'):EvS m spV sel ru key w L' W' :=by
 obtain ⟨_,h1,h2,h3⟩:=ha;exact ⟨h1,h3 _ _ _ (by decide) (by omega) (Blk.below h.s hw),h3 _ _ _ (by decide) (by omega) (Blk.below h.c hw),h3 _ _ _ (by decide) (by omega) (Blk.below h.v hw),(aa h.b hw).trans h2⟩
end
theorem fV (m:Mk):∀ (xs:List (Int×List Pr)) (L:List Rc),(dA m L xs).length≤L.length+xs.length
 | [],_=>Nat.le_refl _
 | x :: xs,L=>by
  have h:=fV m xs (kE m L x.1 x.2);have h2:(kE m L x.1 x.2).length≤L.length+1:=by unfold kE;split <;> simp
  rw [List.length_cons];show (dA m (kE m L x.1 x.2) xs).length≤_;omega
def upTo (m:Mk) (key:ByteArray) (args:List ByteArray) (cwd:ByteArray) (k:Nat):List (Int×List Pr):=
 [(1300,qp m key)] ++ (if m.r.n=1 then [(1309,uF args)] else []) ++ (if m.r.n=19∧args.length=1 then [(1306,Aj m (args.headD ⟨#[]⟩))] else [])
  ++ (if m.is.length=0 then [] else [(1307,BV cwd)]) ++ (m.is.mapIdx (fun i p=>(1302,ug i p.1 p.2))).take k
theorem Aw (m:Mk) (key:ByteArray) (args:List ByteArray) (cwd:ByteArray):upTo m key args cwd m.is.length=BZ m key args cwd:=by
 unfold upTo BZ;rw [List.take_of_length_le (by simp)]
theorem xU (m:Mk) (key:ByteArray) (args:List ByteArray) (cwd:ByteArray) {k:Nat} (hk:k < m.is.length):upTo m key args cwd (k+1)=upTo m key args cwd k ++ [(1302,ug k m.is[k].1 m.is[k].2)]:=by
 unfold upTo;rw [List.take_add_one,List.getElem?_eq_getElem (by simpa using hk),List.getElem_mapIdx,List.append_assoc _ _ [_]];rfl
theorem Ay (m:Mk) (key:ByteArray) (args:List ByteArray) (cwd:ByteArray) (k:Nat) (hk:k≤m.is.length) (h:m.is.length≤1000):(upTo m key args cwd k).length≤1004:=by
 unfold upTo;have h1:((m.is.mapIdx (fun i p=>((1302:Int),ug i p.1 p.2))).take k).length≤1000:=by rw [List.length_take];omega
 simp only [List.length_append];split <;> split <;> split <;> simp only [List.length_cons,List.length_nil] <;> omega
theorem Eh (s:ByteArray):BV s= [soP ⟨#[99,119,100]⟩ s]:=rfl
theorem Ei (m:Mk) (s:ByteArray):Aj m s= [txP ⟨#[104,111,115,116]⟩ s,nuP ⟨#[112,111,114,116]⟩ (m.cx.a 0)]:=rfl
def evA (m:Mk) (key:ByteArray):List Rc:=dA m [] [(1300,qp m key)]
def evB (m:Mk) (key:ByteArray) (args:List ByteArray):List Rc:=dA m (evA m key) (if m.r.n=1 then [(1309,uF args)] else [])
def evC (m:Mk) (key:ByteArray) (args:List ByteArray):List Rc:=dA m (evB m key args) (if m.r.n=19∧args.length=1 then [(1306,Aj m (args.headD ⟨#[]⟩))] else [])
def evD (m:Mk) (key:ByteArray) (args:List ByteArray) (cwd:ByteArray):List Rc:=dA m (evC m key args) (if m.is.length=0 then [] else [(1307,BV cwd)])
theorem IB (m:Mk) (key:ByteArray) (args:List ByteArray) (cwd:ByteArray):evD m key args cwd=dA m [] (upTo m key args cwd 0):=by
 unfold evD evC evB evA upTo;rw [List.take_zero,List.append_nil,fU,fU,fU]
theorem Ej (m:Mk) (key:ByteArray) (args:List ByteArray):(evA m key).length≤1∧(evB m key args).length≤2∧(evC m key args).length≤3:=by
 have h1:(evA m key).length≤1:=fV m [(1300,qp m key)] [];have h2:(evB m key args).length≤2:=by
  refine Nat.le_trans (fV m _ (evA m key)) ?_;split <;> simp only [List.length_cons,List.length_nil] <;> omega
 refine ⟨h1,h2,Nat.le_trans (fV m _ (evB m key args)) ?_⟩;split <;> simp only [List.length_cons,List.length_nil] <;> omega
theorem Em (m:Mk) (key:ByteArray) (args:List ByteArray) (h:m.r.n=1):evB m key args=kE m (evA m key) 1309 (uF args):=by unfold evB;rw [if_pos h];rfl
theorem IC (m:Mk) (key:ByteArray) (args:List ByteArray) (h:¬ m.r.n=1):evB m key args=evA m key:=by unfold evB;rw [if_neg h];rfl
theorem Eo (m:Mk) (key:ByteArray) (s:ByteArray) (h:m.r.n=19):evC m key [s]=kE m (evB m key [s]) 1306 (Aj m s):=by unfold evC;rw [if_pos ⟨h,rfl⟩];rfl
theorem IE (m:Mk) (key:ByteArray) (args:List ByteArray) (h:¬ (m.r.n=19∧args.length=1)):evC m key args=evB m key args:=by unfold evC;rw [if_neg h];rfl
theorem Ep (m:Mk) (key:ByteArray) (args:List ByteArray) (cwd:ByteArray) (h:¬ m.is.length=0):evD m key args cwd=kE m (evC m key args) 1307 (BV cwd):=by unfold evD;rw [if_neg h];rfl
theorem IG (m:Mk) (key:ByteArray) (args:List ByteArray) (cwd:ByteArray) (h:m.is.length=0):evD m key args cwd=evC m key args:=by unfold evD;rw [if_pos h];rfl
def evI (m:Mk) (key:ByteArray) (args:List ByteArray) (cwd:ByteArray) (k:Nat):List Rc:=dA m [] (upTo m key args cwd k)
theorem Az (m:Mk) (key:ByteArray) (args:List ByteArray) (cwd:ByteArray):evI m key args cwd 0=evD m key args cwd:=(IB m key args cwd).symm
theorem AA (m:Mk) (key:ByteArray) (args:List ByteArray) (cwd:ByteArray) {k:Nat} (hk:k < m.is.length):evI m key args cwd (k+1)=kE m (evI m key args cwd k) 1302 (ug k m.is[k].1 m.is[k].2):=by
 unfold evI;rw [xU m key args cwd hk,fU];rfl
theorem xV (m:Mk) (key:ByteArray) (args:List ByteArray) (cwd:ByteArray) (k:Nat) (hk:k≤m.is.length) (h:m.is.length≤1000):(evI m key args cwd k).length≤1004:=by
 have h1:=fV m (upTo m key args cwd k) [];have h2:=Ay m key args cwd k hk h;unfold evI;rw [List.length_nil] at h1;omega
theorem Er (m:Mk) (key:ByteArray) (args:List ByteArray) (cwd:ByteArray):evR m key args cwd=if evI m key args cwd m.is.length= [] then [] else evI m key args cwd m.is.length ++ [⟨1320,m.ti,0, []⟩]:=by
 unfold evR evI;rw [Aw]
theorem iK.gsE {w:World} {g:Nat} {c:Ctx} {r:eH} {it:Value} (h:iK w g c r it):w.cell? ⟨g,21,none⟩=some r.gs.v:=h.cell 21
theorem II {w:World} {g:Nat} {A:Option Addr} {n c:Nat} {Am:Option Addr} {nm cm:Nat} (h:Blk w g 31 #[slV A n c,slV Am nm cm]):(loadVar 31 ⟨g,0,none⟩).run Tryz.prog w= .ok (.agg #[slV A n c,slV Am nm cm]) w:=run_loadVar_row w g _ _ _ _ _ h Tryz.underlying31 rfl (by show _=some 2;kernel_rfl)
theorem IJ {w:World} {g:Nat} {m:Mk} (h:Blk w g 41 m.P):(loadVar 41 ⟨g,0,none⟩).run Tryz.prog w= .ok (.agg m.P) w:=run_loadVar_row w g _ _ _ _ _ h Tryz.underlying41 rfl (by show _=some 2;kernel_rfl)
theorem xW (w:World) (cs ds es fs:Array Value) (s t u v:TypeId):Below w.heap.size w ((((w.alloc (.cells cs s)).alloc (.cells ds t)).alloc (.cells es u)).alloc (.cells fs v))∧Blk ((((w.alloc (.cells cs s)).alloc (.cells ds t)).alloc (.cells es u)).alloc (.cells fs v)) w.heap.size s cs∧Blk ((((w.alloc (.cells cs s)).alloc (.cells ds t)).alloc (.cells es u)).alloc (.cells fs v)) (w.heap.size+1) t ds∧Blk ((((w.alloc (.cells cs s)).alloc (.cells ds t)).alloc (.cells es u)).alloc (.cells fs v)) (w.heap.size+2) u es∧Blk ((((w.alloc (.cells cs s)).alloc (.cells ds t)).alloc (.cells es u)).alloc (.cells fs v)) (w.heap.size+3) v fs∧((((w.alloc (.cells cs s)).alloc (.cells ds t)).alloc (.cells es u)).alloc (.cells fs v)).heap.size=w.heap.size+4:=by
 have s1:(w.alloc (.cells cs s)).heap.size=w.heap.size+1:=by simp
 have s2:((w.alloc (.cells cs s)).alloc (.cells ds t)).heap.size=w.heap.size+2:=by simp
 have s3:(((w.alloc (.cells cs s)).alloc (.cells ds t)).alloc (.cells es u)).heap.size=w.heap.size+3:=by simp
 have h1:=Blk.new (w.alloc (.cells cs s)) ds t;have h2:=Blk.new ((w.alloc (.cells cs s)).alloc (.cells ds t)) es u;have h3:=Blk.new (((w.alloc (.cells cs s)).alloc (.cells ds t)).alloc (.cells es u)) fs v;rw [s1] at h1;rw [s2] at h2;rw [s3] at h3;exact ⟨((((Below.refl _ _).alloc (Nat.le_refl _) _).alloc (by rw [s1];omega) _).alloc (by rw [s2];omega) _).alloc (by rw [s3];omega) _,(((Blk.new w cs s).alloc _).alloc _).alloc _,(h1.alloc _).alloc _,h2.alloc _,h3,by simp⟩
attribute [local irreducible] gT bf Mk.C evA evB evC evD evI kE qp uF Aj BV ug txP soP
attribute [-go_sem] loadVar
attribute [local go_sem] lv3 ET EU Ak JM Iy
theorem Nf (m:Mk) (hok:m.Ok) (key:ByteArray) (sel:Bool) (ru:Int) (args:List ByteArray) (hn:m.r.gs.n=args.length) (oO:args.length≤1000) (As:Option Addr) (ns cs:Nat) (Am:Option Addr) (nm cm:Nat) (cwd:ByteArray) (w:World)
  (hr:yP w w.heap.size m.A m.rs) (hi:cz w w.heap.size m.Ai m.is) (hA:AtE rq w w.heap.size m.r.gs.A args) (hc:Calls10 w) (hw:WhC 49 #[slV As ns cs,slV Am nm cm] m.r.d m.r.i cwd w):
  Calls Tryz.prog 17 #[.agg m.P, .agg #[slV As ns cs,slV Am nm cm], .agg m.X, .agg (vdC sel ru key), .int .i64 m.ti] w (Lx (evR m key args cwd) w):=by
 have HOK:=Hd hok;have HN:=Hd hn;have HFW:=Hd oO;have HA:=Hd hA;have HW:=Hd hw;have HC:=Hd (fun (W:World) (h:Below w.heap.size w W)=>hc.below h (Nat.le_refl _));have HLN:=Hd (Ej m key args);obtain ⟨b0,p0,s0,c0,v0,z0⟩:=xW w m.P #[slV As ns cs,slV Am nm cm] m.X (vdC sel ru key) 41 31 54 63;have hg:=xS m ((((w.alloc (.cells m.P 41)).alloc (.cells #[slV As ns cs,slV Am nm cm] 31)).alloc (.cells m.X 54)).alloc (.cells (vdC sel ru key) 63)) w.heap.size b0.size (hr.keep b0 (Nat.le_refl _)) (hi.keep b0 (Nat.le_refl _)) hok;have BA:=(Below.refl ((((w.alloc (.cells m.P 41)).alloc (.cells #[slV As ns cs,slV Am nm cm] 31)).alloc (.cells m.X 54)).alloc (.cells (vdC sel ru key) 63)).heap.size ((((w.alloc (.cells m.P 41)).alloc (.cells #[slV As ns cs,slV Am nm cm] 31)).alloc (.cells m.X 54)).alloc (.cells (vdC sel ru key) 63))).alloc (Nat.le_refl _) (.cells (m.C (.slice none 0 0)) 124);rw [z0] at hg;have S0:=Hd (show EvS m #[slV As ns cs,slV Am nm cm] sel ru key w [] (((((w.alloc (.cells m.P 41)).alloc (.cells #[slV As ns cs,slV Am nm cm] 31)).alloc (.cells m.X 54)).alloc (.cells (vdC sel ru key) 63)).alloc (.cells (m.C (.slice none 0 0)) 124)) from ⟨hg,Blk.below s0 BA,Blk.below c0 BA,Blk.below v0 BA,aa b0 BA⟩);have hp0:=IJ p0;have hc0:=BS c0;have Z0:=Hd z0;clear b0 p0 s0 c0 v0 hg BA hr hi hA hc hw hn oO hok z0;go_in;go_upto_region 2 with (first | (refine wpList_buildTo rfl 124 _ rfl (some 19) rfl (m.C (.slice none 0 0)) (by as_aux_lemma=>kernel_rfl) ?_) | (refine wpList_boxTo rfl 124 (.tmp 19) rfl (some 20) rfl (w.heap.size+4) Z0.o (m.C (.slice none 0 0)) (by rfl) ?_));clear hp0 hc0 Z0;generalize ((((w.alloc (.cells m.P 41)).alloc (.cells #[slV As ns cs,slV Am nm cm] 31)).alloc (.cells m.X 54)).alloc (.cells (vdC sel ru key) 63)).alloc (.cells (m.C (.slice none 0 0)) 124)=w0 at *;have v2:=S0.o.v.cell 2;go_wp2_with fail;clear v2;refine (Lv m w.heap.size (w.heap.size+4) [] key (by simp) w0 S0.o.g (HC.o _ S0.o.b)).mono ?_;rintro e w1 ha;have S1:=Hd (show EvS m #[slV As ns cs,slV Am nm cm] sel ru key w (evA m key) w1 from S0.o.add (Below.refl _ _) (by unfold evA dA dA;exact ha));obtain ⟨rfl,_⟩:=ha;clear S0;have c15:=iK.num S1.o.c;go_upto_if 28 with fail;go_cut [] (fun wx=>EvS m #[slV As ns cs,slV Am nm cm] sel ru key w (evB m key args) wx);case first=>
  by_cases h1:m.r.n=1;case pos=>
   have HB:=Hd (Em m key args h1);go_wp2_with fail;refine (Iz m w.heap.size (w.heap.size+4) (evA m key) (by have:=HLN.o.1;omega) args HN.o HFW.o w1 S1.o.g (HA.o.keep S1.o.b (Nat.le_refl _))).mono ?_;rintro e w2 ha;have S2:=Hd (show EvS m #[slV As ns cs,slV Am nm cm] sel ru key w (evB m key args) w2 from S1.o.add (Below.refl _ _) (by rw [HB.o];exact ha));obtain ⟨rfl,_⟩:=ha;go_wp2_with fail;go_meet;exact S2.o
  case neg=>
   have HB:=Hd (IC m key args h1);go_wp2_with fail;go_meet;rw [HB.o];exact S1.o
 case rest=>
 generalize wc=wB at *;have S2:=Hd hcut;clear hcut S1 c15;have c15:=iK.num S2.o.c;have c21:=iK.gsE S2.o.c;generalize hq:m.r.gs=q at *;obtain ⟨qA,qn,qc⟩:=q;simp only at HN HA;have HQ:=Hd hq;clear hq;have c22:wB.cell? ⟨w.heap.size+2,21,none⟩=some (.slice qA qn qc):=c21;clear c21;go_upto_region 5 with fail;go_cut [41] (fun u wx=>u= .bool (decide (m.r.n=19∧args.length=1))∧wB=wx);case first=>
  by_cases h1:m.r.n=19;case pos=>
   have b1:=(bI h1).1;by_cases h2:qn=1;case pos=>
    subst h2;go_wp2_with fail;go_meet;exact ⟨by rw [decide_eq_true (And.intro h1 HN.o.symm)],rfl⟩
   case neg=>
    have b2:=(aM (show (qn:Int)≠1 by omega)).1;go_wp2_with fail;go_meet;exact ⟨by rw [decide_eq_false (fun h=>h2 (HN.o.trans h.2))],rfl⟩
  case neg=>
   have b1:=(aM h1).1;go_wp2_with fail;go_meet;exact ⟨by rw [decide_eq_false (fun h=>h1 h.1)],rfl⟩
 case rest=>
 obtain ⟨rfl,rfl⟩:=hcut;generalize hdq:decide (m.r.n=19∧args.length=1)=dq at *;go_upto_if 41 with fail;go_cut [] (fun wx=>EvS m #[slV As ns cs,slV Am nm cm] sel ru key w (evC m key args) wx);case first=>
  cases dq with
  | true=>
   obtain ⟨h1,h2⟩:=of_decide_eq_true hdq;have HL:=HN.o
   match args,h2 with
   | [s],_=>
    have HC2:=Hd (Eo m key s h1);obtain rfl:qn=1:=HL;obtain ⟨ad,rfl,hab,hcx⟩:=HA.o 0 (by simp);have hs:=nY (a:=ad.add (0 * 1)) hcx;rw [show ad.add (0 * 1)=ad by simp [Addr.add]] at hs;have HS:=Hd hs;have s0:=(S2.o.b.cell (p:=ad) hab).trans hs;clear hs hcx hdq;go_upto_region 6 with fail;refine wp_region_held_drew (S:=(fun W' =>((Blk W' (w.heap.size+2) 54 m.X∧W'.cell? ⟨w.heap.size+2,21,none⟩=some (.slice (some ad) 1 qc))∧W'.cell? ad=some (.string s))∧Below w.heap.size w W')) (by kernel_rfl) ⟨⟨⟨Blk.below S2.o.c (Below.refl _ _).drew,c22⟩,s0⟩,S2.o.b.drew⟩ (fun hHeld=>?_);have S3:=Hd (S2.o.below (Below.refl wB.heap.size wB).drew);clear S2 s0 c15 c22;generalize wB.drew=wd at *;refine tk hHeld 0 ?_ ?_ (tk hHeld 1 ?_ ?_ (tk hHeld 2 ?_ ?_ (tk hHeld 3 ?_ ?_ (tk hHeld 4 ?_ ?_ (tk hHeld 5 ?_ ?_ (tk hHeld 7 ?_ ?_ (tk hHeld 8 ?_ ?_ (tk hHeld 9 ?_ ?_ (tk hHeld 10 ?_ ?_ ?_)))))))));iterate 10
     rotate_left
     · intro W hSw;have kk:=hSw.1.1.2;have Nb:=hSw.1.2;have Nc:=iK.a0 hSw.1.1.1;go_simp;try (with_reducible rfl)
    refine rdy1 6 (fun K hK=>?_);go_simp;go_at_call 47;refine (kg _ _ _).mono ?_;rintro e wa ⟨rfl,hb⟩;have hh:=And.intro (And.intro (And.intro (Blk.below hHeld.1.1.1 hb) ((hb.cell (block_lt_of_cell hHeld.1.1.2)).trans hHeld.1.1.2)) ((hb.cell (block_lt_of_cell hHeld.1.2)).trans hHeld.1.2)) (aa hHeld.2 hb);have S4:=Hd (S3.o.below hb);clear hb S3;go_simp;refine hK.o _ _ hh (fun hHeld=>?_);clear hK K;clear hh;refine rdy1 11 (fun K hK=>?_);go_simp;go_at_call 48;refine (Lt _ _ _).mono ?_;rintro e wb ⟨rfl,hb⟩;have hh:=And.intro (And.intro (And.intro (Blk.below hHeld.1.1.1 hb) ((hb.cell (block_lt_of_cell hHeld.1.1.2)).trans hHeld.1.1.2)) ((hb.cell (block_lt_of_cell hHeld.1.2)).trans hHeld.1.2)) (aa hHeld.2 hb);have S5:=Hd (S4.o.below hb);clear hb S4;go_simp;refine hK.o _ _ hh (fun hHeld=>?_);clear hK K;clear hh;refine rdy1 12 (fun K hK=>?_);have hb:=(Below.refl wb.heap.size wb).alloc (Nat.le_refl _) (.cells #[.string (txP ⟨#[104,111,115,116]⟩ s).nm, .int .i64 (txP ⟨#[104,111,115,116]⟩ s).kd, .int .i64 (txP ⟨#[104,111,115,116]⟩ s).nu, .string (txP ⟨#[104,111,115,116]⟩ s).tx, .string ⟨#[112,111,114,116]⟩, .int .i64 1, .int .i64 (m.cx.a 0), .string ⟨#[]⟩] 79);have hh:=And.intro (And.intro (And.intro (Blk.below hHeld.1.1.1 hb) ((hb.cell (block_lt_of_cell hHeld.1.1.2)).trans hHeld.1.1.2)) ((hb.cell (block_lt_of_cell hHeld.1.2)).trans hHeld.1.2)) (aa hHeld.2 hb);have RW:=Hd (jB EP wb #[.string (txP ⟨#[104,111,115,116]⟩ s).nm, .int .i64 (txP ⟨#[104,111,115,116]⟩ s).kd, .int .i64 (txP ⟨#[104,111,115,116]⟩ s).nu, .string (txP ⟨#[104,111,115,116]⟩ s).tx, .string ⟨#[112,111,114,116]⟩, .int .i64 1, .int .i64 (m.cx.a 0), .string ⟨#[]⟩] 79 [(txP ⟨#[104,111,115,116]⟩ s),nuP ⟨#[112,111,114,116]⟩ (m.cx.a 0)] rfl (B:=(wb.alloc (.cells #[.string (txP ⟨#[104,111,115,116]⟩ s).nm, .int .i64 (txP ⟨#[104,111,115,116]⟩ s).kd, .int .i64 (txP ⟨#[104,111,115,116]⟩ s).nu, .string (txP ⟨#[104,111,115,116]⟩ s).tx, .string ⟨#[112,111,114,116]⟩, .int .i64 1, .int .i64 (m.cx.a 0), .string ⟨#[]⟩] 79)).heap.size) (by simp));have S6:=Hd (S5.o.below hb);clear hb S5;go_simp;refine hK.o _ _ hh (fun hHeld=>?_);clear hK K;clear hh;refine rdy1 13 (fun K hK=>?_);go_simp;go_at_call 46;refine (xQ m w.heap.size (w.heap.size+4) (evB m key [s]) 1306 (some ⟨wb.heap.size,0,none⟩) 2 2 [(txP ⟨#[104,111,115,116]⟩ s),nuP ⟨#[112,111,114,116]⟩ (m.cx.a 0)] rfl (by omega) (by have:=HLN.o.2.1;omega) _ S6.o.g RW.o).mono ?_;rintro e wz ha;have S7:=Hd (show EvS m #[slV As ns cs,slV Am nm cm] sel ru key w (evC m key [s]) wz from S6.o.add (Below.refl _ _) (by rw [HC2.o,Ei];exact ha));obtain ⟨rfl,_⟩:=ha;have hh:=And.intro (And.intro (And.intro S7.o.c (by have:=iK.gsE S7.o.c;rw [HQ.o] at this;exact this)) ((S7.o.b.cell (p:=ad) hab).trans HS.o)) S7.o.b;go_simp;refine hK.o _ _ hh (fun hHeld=>?_);clear hK K;clear hh;refine wpAnyH_done (by kernel_rfl) ?_ _;go_simp;go_wp2_with fail;go_meet;exact S7.o
  | false=>
   have HC2:=Hd (IE m key args (of_decide_eq_false hdq));go_wp2_with fail;go_meet;rw [HC2.o];exact S2.o
 case rest=>
 generalize wc=wC at *;have S3:=Hd hcut;clear hcut S2 c15 c22;have c23:=iK.items S3.o.c;go_upto_if 59 with fail;go_cut [] (fun wx=>EvS m #[slV As ns cs,slV Am nm cm] sel ru key w (evD m key args cwd) wx);case first=>
  by_cases h1:m.is.length=0;case pos=>
   have HD:=Hd (IG m key args cwd h1);have b1:¬ (m.ni:Int) > 0:=(by have:=HOK.o.hi;omega);go_wp2_with fail;go_meet;rw [HD.o];exact S3.o
  case neg=>
   have HD:=Hd (Ep m key args cwd h1);have b1:(m.ni:Int) > 0:=(by have:=HOK.o.hi;omega);have hls:=II S3.o.s;have c9:=iK.c9 S3.o.c;have c10:=iK.c10 S3.o.c;have hlf:=Ea c9 c10;go_wp2_with fail;refine (HW.o _ S3.o.b).mono ?_;rintro e w4 ⟨⟨bb,rfl⟩,hb⟩;have S4:=Hd (S3.o.below hb);clear hb hls c9 c10 hlf;go_wp2_with fail;refine (qo _ _ _).mono ?_;rintro e w5 ⟨rfl,hb⟩;have S5:=Hd (S4.o.below hb);clear hb S4;have RW:=Hd (jB EP w5 #[.string (soP ⟨#[99,119,100]⟩ cwd).nm, .int .i64 (soP ⟨#[99,119,100]⟩ cwd).kd, .int .i64 (soP ⟨#[99,119,100]⟩ cwd).nu, .string (soP ⟨#[99,119,100]⟩ cwd).tx] 79 [(soP ⟨#[99,119,100]⟩ cwd)] rfl (B:=(w5.alloc (.cells #[.string (soP ⟨#[99,119,100]⟩ cwd).nm, .int .i64 (soP ⟨#[99,119,100]⟩ cwd).kd, .int .i64 (soP ⟨#[99,119,100]⟩ cwd).nu, .string (soP ⟨#[99,119,100]⟩ cwd).tx] 79)).heap.size) (by simp));have S6:=Hd (S5.o.below ((Below.refl w5.heap.size w5).alloc (Nat.le_refl _) (.cells #[.string (soP ⟨#[99,119,100]⟩ cwd).nm, .int .i64 (soP ⟨#[99,119,100]⟩ cwd).kd, .int .i64 (soP ⟨#[99,119,100]⟩ cwd).nu, .string (soP ⟨#[99,119,100]⟩ cwd).tx] 79)));go_wp2_with fail;refine (xQ m w.heap.size (w.heap.size+4) (evC m key args) 1307 (some ⟨w5.heap.size,0,none⟩) 1 1 [(soP ⟨#[99,119,100]⟩ cwd)] rfl (by omega) (by have:=HLN.o.2.2;omega) _ S6.o.g RW.o).mono ?_;rintro e w6 ha;have S7:=Hd (show EvS m #[slV As ns cs,slV Am nm cm] sel ru key w (evD m key args cwd) w6 from S6.o.add (Below.refl _ _) (by rw [HD.o,Eh];exact ha));obtain ⟨rfl,_⟩:=ha;go_wp2_with fail;go_meet;exact S7.o
 case rest=>
 generalize wc=wD at *;have S4:=Hd (show EvS m #[slV As ns cs,slV Am nm cm] sel ru key w (evI m key args cwd 0) wD by rw [Az];exact hcut);clear hcut S3 c23;have c23:=iK.items S4.o.c;go_wp2_with fail;clear c23;go_loopw [76] (fun ix wr=>∃ k:Nat,k≤m.is.length∧ix= .int .i64 (k:Int)∧Hid (EvS m #[slV As ns cs,slV Am nm cm] sel ru key w (evI m key args cwd k) wr)) (fun ix _=>m.is.length - (intOf ix).toNat);case atStart=>exact ⟨0,Nat.zero_le _,rfl,S4⟩
 case round=>
  obtain ⟨k,hk,rfl,HS⟩:=hrel;clear S4;by_cases hlt:k < m.is.length;case pos=>
   have HNX:=Hd (AA m key args cwd hlt);have HIL:=Hd (xV m key args cwd k hk (by rw [← HOK.o.hi];exact HOK.o.few));have k0:(0:Int)≤(k:Int):=(by omega);have kn:(k:Int) < (m.ni:Int):=(by have:=HOK.o.hi;omega);obtain ⟨ad,hAi,hab,hcx⟩:=HS.o.g.items k hlt;generalize m.is[k]=yr at *;obtain ⟨y,r⟩:=yr;rw [hAi];have hli:=DY (a:=ad.add (k * 13)) hcx;have hk9:k≤1000000:=(by have:=HOK.o.hi;have:=HOK.o.few;omega);obtain ⟨q7,q8⟩:=bq hk9 (Nat.le_refl _);have X0:=Hd (Blk.new wr lh 73);have X1:=Hd (Blk.row X0.o (bf y r));have BX:=Hd (show Below wr.heap.size wr ((wr.alloc (.cells lh 73)).setRow wr.heap.size (bf y r)) from ai ((Below.refl _ _).alloc (Nat.le_refl _) _) (Nat.le_refl _) _);have S5:=Hd (HS.o.below BX.o);have Q7:=Hd (And.intro q7 q8);clear q7 q8 HS hcx;go_upto_region 13 with ((with_reducible refine ae ?_ 73 (.tmp 15) (.tmp 80) ?_ X0.o (bf y r) ?_ ?_ ?_ ?_ ?_ ?_);(iterate 4 rfl);(exact jQ _ _);(exact zA _ _);(exact kL _ _));clear hli X0;have hl2:=Ie X1.o;generalize (wr.alloc (.cells lh 73)).setRow wr.heap.size (bf y r)=w2 at *;go_wp2_with fail;clear hl2;refine (IA m w.heap.size (w.heap.size+4) (evI m key args cwd k) (by have:=HIL.o;omega) k y r w2 S5.o.g).mono ?_;rintro e w3 ha;have S6:=Hd (show EvS m #[slV As ns cs,slV Am nm cm] sel ru key w (evI m key args cwd (k+1)) w3 from S5.o.add (Below.refl _ _) (by rw [HNX.o];exact ha));obtain ⟨rfl,_⟩:=ha;obtain ⟨q7,q8⟩:=Q7.o;go_wp2_with fail;clear q7 q8;go_roundw;case rel=>exact ⟨k+1,hlt,by go_num,S6⟩
   case measure=>exact aN hlt _ rfl
  case neg=>
   have hke:k=m.is.length:=(by omega);have kn:¬ (k:Int) < (m.ni:Int):=(by have:=HOK.o.hi;omega);have HIL:=Hd (xV m key args cwd k hk (by rw [← HOK.o.hi];exact HOK.o.few));have IK:=Hd (Er m key args cwd);rw [← hke] at IK;obtain ⟨A0,n0,c0,r28,hn0,hro⟩:=HS.o.g.recs;generalize evI m key args cwd k=LL at *;have HRO:=Hd hro;have HN0:=Hd hn0;clear hro hn0;by_cases hz:LL= [];case pos=>
    have n00:(n0:Int)=0:=(by rw [HN0.o,hz];rfl);have b0:=(bI n00).1;go_wp2_with fail;go_ret;exact ⟨none,0,0,rfl,by rw [IK.o,if_pos hz];rfl,by rw [IK.o,if_pos hz];exact eT.nil _ _,HS.o.b⟩
   case neg=>
    have hlz:LL.length≠0:=fun e=>hz (List.eq_nil_of_length_eq_zero e);have b0:=(aM (show (n0:Int)≠0 by rw [HN0.o];omega)).1;obtain ⟨xs,exs,ho,hp⟩:=HRO.o;have HXL:=Hd (show xs.length+1≤1000000 by have:=HIL.o;rw [← exs,List.length_map] at this;omega);have RW:=Hd (aI ER wr #[.int .i64 1320, .int .i64 m.ti, .int .i64 0, .slice none 0 0] 77 (⟨⟨1320,m.ti,0, []⟩,none,0⟩:Rm) rfl (Nat.lt_succ_self wr.heap.size));have HO2:=Hd (ho.alloc (.cells #[.int .i64 1320, .int .i64 m.ti, .int .i64 0, .slice none 0 0] 77));have HP2:=Hd (fun x hx=>(hp x hx).alloc (.cells #[.int .i64 1320, .int .i64 m.ti, .int .i64 0, .slice none 0 0] 77));have HX:=Hd exs;have HB2:=Hd (HS.o.b.alloc HS.o.b.size (.cells #[.int .i64 1320, .int .i64 m.ti, .int .i64 0, .slice none 0 0] 77));clear ho hp exs;go_wp2_with (at_builtin;refine aj ER rfl (.tmp 95) (.tmp 98) rfl w.heap.size (.slice A0 n0 c0) xs rfl HO2.o (wr.heap.size+1) (some ⟨wr.heap.size,0,none⟩) 1 1 [⟨⟨1320,m.ti,0, []⟩,none,0⟩] rfl rfl RW.o HXL.o HB2.o.size ?_;intro v6 w6 ho6 hg6 iR);have HF:=Hd (show Lx (evR m key args cwd) w (.returned v6) w6 from by
     obtain ⟨A6,c6,e6,_⟩:=ho6.at;subst e6;refine ⟨A6,_,c6,rfl,by rw [IK.o,if_neg hz,List.length_append,List.length_append, ← HX.o,List.length_map];rfl,?_,HB2.o.grown hg6 HB2.o.size (fun q e=>HO2.o.ge q e)⟩;rw [IK.o,if_neg hz];exact eT.end (v:= .slice A0 n0 c0) ⟨xs,HX.o,HO2.o,HP2.o⟩ 1320 m.ti HX.o HO2.o HP2.o ho6 hg6)
    clear ho6 hg6 iR;go_ret;exact HF.o
end Go.Proofs.YtollifnnpihfdaaGreatDoor
namespace Go.Proofs.YtollifnnpihfdaaGreatDoor
open Go.RowKit
theorem qF (ds:List Dm) (A:Option Addr) (n c:Nat) (hn:n=ds.length) (ms:List Mt) (Am:Option Addr) (nm cm:Nat) (hnm:nm=ms.length) (hl:nm≤1000) {dev ino:Int}
  (hno:(bM (ds.map Dm.dv) dev ino && fE ms dev)=false) (w:World) (hf:bZ w w.heap.size A ds) (hm:AtE EMt w w.heap.size Am ms):
  Calls Tryz.prog 49 #[.agg #[slV A n c,slV Am nm cm],flV dev ino] w (WhP ⟨#[]⟩ false w):=by
 obtain ⟨H,hH⟩:∃ H,w.heap.size=H:=⟨_,rfl⟩;obtain ⟨w0,hw0⟩:∃ w0,w0=(((w.alloc (.cells #[slV A n c,slV Am nm cm] 31)).alloc (.cells #[.int .i64 dev, .int .i64 ino] 44)).alloc (.cells #[.string ⟨#[]⟩] 9)).alloc (.cells #[.bool false] 4):=⟨_,rfl⟩;have B0:Below H w w0:=by rw [hw0, ← hH];exact ((((Below.refl _ _).alloc (Nat.le_refl _) _).alloc (by simp) _).alloc (by simp;omega) _).alloc (by simp;omega) _
 have hs0:w0.heap.size=H+4:=by rw [hw0, ← hH];simp
 have V0:Blk w0 H 31 #[slV A n c,slV Am nm cm]:=by rw [hw0, ← hH];exact (((Blk.new w _ _).alloc _).alloc _).alloc _
 have U0:Blk w0 (H+1) 44 #[.int .i64 dev, .int .i64 ino]:=by
  have:=Blk.new (w.alloc (.cells #[slV A n c,slV Am nm cm] 31)) #[.int .i64 dev, .int .i64 ino] 44;simp only [World.size_alloc,hH] at this;rw [hw0];exact (this.alloc _).alloc _
 have R1:Blk w0 (H+2) 9 #[.string ⟨#[]⟩]:=by
  have:=Blk.new ((w.alloc (.cells #[slV A n c,slV Am nm cm] 31)).alloc (.cells #[.int .i64 dev, .int .i64 ino] 44)) #[.string ⟨#[]⟩] 9;simp only [World.size_alloc,hH] at this;rw [hw0];exact this.alloc _
 have R2:Blk w0 (H+3) 4 #[.bool false]:=by
  have:=Blk.new (((w.alloc (.cells #[slV A n c,slV Am nm cm] 31)).alloc (.cells #[.int .i64 dev, .int .i64 ino] 44)).alloc (.cells #[.string ⟨#[]⟩] 9)) #[.bool false] 4;simp only [World.size_alloc,hH] at this;rw [hw0];exact this
 have F0:=hf.keep B0 (by omega);have M0:=hm.keep B0 (by omega);have HN:=Hd hn;have HNM:=Hd hnm;have HNO:=Hd hno;clear hn hnm hno;refine (callsIn_wide (n:=20)).1 ?_;refine callsIn_of_wp_marks Tryz.func49 rfl trivial ?_ rfl;simp only [Tryz.ntmps49,List.size_toArray,List.length_cons,List.length_nil,Nat.reduceAdd,Nat.reduceSub,Array.replicate_succ,Array.replicate_zero,List.push_toArray,List.append_toArray,List.nil_append,List.cons_append]
 gi_wp2_with fail
 rw [← hw0];clear hw0;refine ⟨trivial,(callsIn_wide.2 (Cf dev ino ds A n c HN.o (slV Am nm cm) w0 (F0.more (by omega)))).mono ?_⟩;rintro en w1 ⟨rfl,hb1⟩;have V1:=V0.below hb1;have U1:=U0.below hb1;have R11:=R1.below hb1;have R21:=R2.below hb1;have F1:=F0.keep hb1 (by omega);have M1:=M0.keep hb1 (by omega);have B1:Below H w w1:=B0.trans (hb1.mono (by omega));have hs1:H+4≤w1.heap.size:=by have:=hb1.size;omega
 clear hb1 V0 U0 R1 R2 F0 M0 B0 hs0 w0;have u0:=U1.cell 0;have v0:=V1.cell 0;have v1:=V1.cell 1;cases hd:bM (ds.map Dm.dv) dev ino with
 | false=>
  have r0:=R11.cell 0;have g0:=R11.free 0;have r2:=R21.cell 0;have g2:=R21.free 0
  gi_wp2_with fail
  refine ⟨trivial,?_⟩
  gi_wp2_with fail
  have q1:Blk ((w1.setCell ⟨H+1+1,0,none⟩ (.string ⟨#[]⟩)).setCell ⟨H+1+1+1,0,none⟩ (.bool false)) (H+1+1) 9 #[.string ⟨#[]⟩]:=(R11.put 0 _).af _ (by show H+1+1≠H+1+1+1;omega);have q2:Blk ((w1.setCell ⟨H+1+1,0,none⟩ (.string ⟨#[]⟩)).setCell ⟨H+1+1+1,0,none⟩ (.bool false)) (H+1+1+1) 4 #[.bool false]:=(R21.af (p:=⟨H+1+1,0,none⟩) _ (by show H+3≠H+1+1;omega)).put 0 _;have d1:=q1.cell 0;have d2:=q2.cell 0;refine ⟨.tuple #[.string ⟨#[]⟩, .bool false],by simp [results,Tryz.results49,go_sem,d1,d2],rfl,?_⟩;rw [hH];exact (B1.setCell (p:=⟨H+1+1,0,none⟩) (by show H≤H+1+1;omega) _).setCell (p:=⟨H+1+1+1,0,none⟩) (by show H≤H+1+1+1;omega) _
 | true=>
  have hmt:fE ms dev=false:=by have h:=HNO.o;rw [hd,Bool.true_and] at h;exact h
  gi_wp2_with fail
  clear u0 v0 v1;refine ⟨trivial,(callsIn_wide.2 (IV dev (slV A n c) ms Am nm cm HNM.o hl w1 (M1.more (by omega)))).mono ?_⟩;rw [hmt];rintro en w2 ⟨rfl,hb1⟩;have R12:=R11.below hb1;have R22:=R21.below hb1;have B2:Below H w w2:=B1.trans (hb1.mono (by omega));clear hb1 V1 U1 R11 R21 F1 M1 B1;have r0:=R12.cell 0;have g0:=R12.free 0;have r2:=R22.cell 0;have g2:=R22.free 0
  gi_wp2_with fail
  have q1:Blk ((w2.setCell ⟨H+1+1,0,none⟩ (.string ⟨#[]⟩)).setCell ⟨H+1+1+1,0,none⟩ (.bool false)) (H+1+1) 9 #[.string ⟨#[]⟩]:=(R12.put 0 _).af _ (by show H+1+1≠H+1+1+1;omega);have q2:Blk ((w2.setCell ⟨H+1+1,0,none⟩ (.string ⟨#[]⟩)).setCell ⟨H+1+1+1,0,none⟩ (.bool false)) (H+1+1+1) 4 #[.bool false]:=(R22.af (p:=⟨H+1+1,0,none⟩) _ (by show H+3≠H+1+1;omega)).put 0 _;have d1:=q1.cell 0;have d2:=q2.cell 0;refine ⟨.tuple #[.string ⟨#[]⟩, .bool false],by simp [results,Tryz.results49,go_sem,d1,d2],rfl,?_⟩;rw [hH];exact (B2.setCell (p:=⟨H+1+1,0,none⟩) (by show H≤H+1+1;omega) _).setCell (p:=⟨H+1+1+1,0,none⟩) (by show H≤H+1+1+1;omega) _
theorem AR {f:List Dv} (h:FOk f):yM f≤1000:=by
 have:∀ l:List Dv,(∀ d∈l,d.ns.length≤16)→(l.map (fun d=>d.ns.length)).sum≤16 * l.length:=by
  intro l;induction l with
  | nil=>intro _;simp
  | cons a l ih=>
   intro hl;have h1:=ih (fun d hd=>hl d (List.mem_cons_of_mem _ hd));have h2:=hl a (List.mem_cons_self ..);simp only [List.map_cons,List.sum_cons,List.length_cons];omega
 have h1:=this f (fun d hd=>(h.2.2 d hd).few);have h2:=h.2.1;unfold yM;omega
theorem iP:∀ (L:List ByteArray) (d:ByteArray),0 < d.size→0 < (L.foldl eX d).size
 | [],_,h=>h
 | a :: L,d,h=>iP L (eX d a) (by unfold eX;split <;> simp only [ByteArray.size_append] <;> omega)
theorem uk (ds:List Dm) (A:Option Addr) (n c:Nat) (hn:n=ds.length) (ms:List Mt) (Am:Option Addr) (nm cm:Nat) (hnm:nm=ms.length) (hl:nm≤1000) (hok:SOk (ds.map Dm.dv) ms) (dev ino:Int):
   ∃ (s:ByteArray) (b:Bool),(s.size≤586∧b=decide (0 < s.size))∧∀ w:World,bZ w w.heap.size A ds→AtE EMt w w.heap.size Am ms→
    Calls Tryz.prog 49 #[.agg #[slV A n c,slV Am nm cm],flV dev ino] w (WhP s b w)∧Calls Tryz.prog 28 #[.agg #[slV A n c,slV Am nm cm],flV dev ino] w (WhP s b w):=by
 by_cases h:(bM (ds.map Dm.dv) dev ino && fE ms dev)=true
 · have h0:=Bool.and_eq_true .. ▸ h;obtain ⟨L,k,h1,h2,h3⟩:=hok.FD h0.2 h0.1;exact ⟨iV L,true,⟨jO (h1.names hok.1) h2,(decide_eq_true (iP L _ (by decide))).symm⟩,fun w hf hm=>⟨yz ds A n c hn ms Am nm cm hnm hl hok.1 h1 h3 (Nat.le_trans h3 (AR hok.1)) h0.1 h0.2 w hf hm,pI ds A n c hn ms Am nm cm hnm hl hok.1 hok.2.zero h1 h2 w hf hm⟩⟩
 · have h0:(bM (ds.map Dm.dv) dev ino && fE ms dev)=false:=(by simpa using h);exact ⟨⟨#[]⟩,false,⟨by decide,by decide⟩,fun w hf hm=>⟨qF ds A n c hn ms Am nm cm hnm hl h0 w hf hm,pG dev ino ds A n c hn ms Am nm cm hnm hl w hf hm h0⟩⟩
abbrev cxL:Array Value:=#[.int .i64 2, .int .i64 0, .int .i64 0, .int .i64 0, .int .i64 0, .int .i64 0, .int .i64 0, .int .i64 0, .int .i64 0, .int .i64 0, .int .i64 0, .string ⟨#[]⟩, .string ⟨#[]⟩, .slice none 0 0, .bool false, .int .i64 3, .int .i64 0, .int .i64 0, .int .i64 0, .int .i64 0, .slice none 0 0, .slice none 0 0, .int .i64 0, .slice none 0 0, .int .i64 0]
theorem Ck:(Tryz.prog.info? 54).map (·.size)=some cxL.size:=by show _=some 25;kernel_rfl
def yC (w:World) (e:Ending) (w' :World):Prop:=∃ (A:Option Addr) (c:Nat) (x y:Rm),e= .returned (.slice A 2 c)∧AtE ER w' w'.heap.size A [x,y]∧x.r.ty=1300∧x.r.ti=5∧x.r.ps.length=19∧y.r.ty=1320∧Below w.heap.size w w'
def mkL:Mk:=⟨none,0,0, .slice none 0 0,⟨2,fun _=>0,fun _=>0,0,0,⟨#[]⟩,⟨#[]⟩⟩,⟨0,0,⟨none,0,0⟩,false,3,⟨none,0,0⟩,⟨none,0,0⟩⟩,none,0,0,5, [], []⟩
theorem LK:mkL.X=cxL:=rfl
theorem I4 (key:ByteArray):evR mkL key [] ⟨#[]⟩= [⟨1300,5,0,qp mkL key⟩,⟨1320,5,0, []⟩]:=by
 have h1:dA mkL [] (BZ mkL key [] ⟨#[]⟩)= [⟨1300,5,0,qp mkL key⟩]:=by
  have h2:BZ mkL key [] ⟨#[]⟩= [(1300,qp mkL key)]:=rfl;rw [h2];show kE mkL [] 1300 (qp mkL key)=_;unfold kE;rw [if_neg (by decide)];rfl
 unfold evR;simp only [h1];rfl
theorem AX (W:World) (B:Nat):bZ W B none []:=⟨AtE.nil,Nat.zero_le _,fun d h=>(List.not_mem_nil h).elim,fun d h=>(List.not_mem_nil h).elim⟩
theorem EC (w:World) (hc:Calls10 w):Calls Tryz.prog 17 #[.agg #[.slice none 0 0, .slice none 0 0], .agg #[.slice none 0 0, .slice none 0 0], .agg cxL, .agg #[.bool true, .int .i64 0, .string ⟨#[107]⟩], .int .i64 5] w (yC w):=by
 have hv:=Nf mkL ⟨rfl,rfl,Nat.zero_le _,fun t w _ _=>Cg (.slice none 0 0) mkL.cx mkL.r none 0 0 [] t w⟩ ⟨#[107]⟩ true 0 [] rfl (Nat.zero_le _) none 0 0 none 0 0 ⟨#[]⟩ w ⟨AtE.nil,Nat.zero_le _,fun x h=>by cases h⟩ cz.nil AtE.nil hc (fun W hW=>by
  refine (qF [] none 0 0 rfl [] none 0 0 rfl (Nat.zero_le _) (dev:=0) (ino:=0) rfl W (AX W _) AtE.nil).mono ?_;rintro e w' ⟨h1,h2⟩;exact ⟨⟨false,h1⟩,h2⟩)
 rw [LK] at hv;refine hv.mono ?_;rintro e w' ⟨A,n,c,he,hn,⟨xs,hx,ho,hp⟩,hb⟩;rw [I4] at hn hx;obtain ⟨x,ys,rfl,hx1,h2⟩:=List.map_eq_cons_iff.1 hx;obtain ⟨y,zs,rfl,hy,h3⟩:=List.map_eq_cons_iff.1 h2;obtain rfl:=List.map_eq_nil_iff.1 h3;have hx:x.r=⟨1300,5,0,qp mkL ⟨#[107]⟩⟩:=hx1;have hy:y.r=⟨1320,5,0, []⟩:=hy;obtain ⟨A',c',e',ha⟩:=ho.at;refine ⟨A,c,x,y,by rw [he,hn];rfl,?_,by rw [hx],by rw [hx],by rw [hx];rfl,by rw [hy],hb⟩;injection e' with e' _ _;rw [e'];exact ha
abbrev zxL:Array Value:=#[.int .i64 0, .int .i64 0, .int .i64 0, .int .i64 0, .int .i64 0, .int .i64 0, .int .i64 0, .int .i64 0, .int .i64 0, .int .i64 0, .int .i64 0, .string ⟨#[]⟩, .string ⟨#[]⟩, .slice none 0 0, .bool false, .int .i64 0, .int .i64 0, .int .i64 0, .int .i64 0, .int .i64 0, .slice none 0 0, .slice none 0 0, .int .i64 0, .slice none 0 0, .int .i64 0]
abbrev awW (w:World):World:=(w.alloc (.cells zxL 54)).setRow w.heap.size cxL
abbrev c47:Array Value:=#[.int .i64 3, .int .i64 0, .int .i64 0, .int .i64 0, .int .i64 0, .slice none 0 0, .slice none 0 0, .int .i64 0, .slice none 0 0, .int .i64 0]
theorem ED (w:World) (hc:Calls10 w):Calls Tryz.prog 19 #[] w fun e w' =>e= .returned (.bool true)∧Below w.heap.size w w' :=by
 have hb0:Below w.heap.size w (awW w):=ai ((Below.refl _ _).alloc (Nat.le_refl _) _) (Nat.le_refl _) _;have X1:=Hd (show Blk (awW w) w.heap.size 54 cxL from (Blk.new w zxL 54).row cxL);have HE:=Hd (EC (awW w) (hc.below hb0 (Nat.le_refl _)));have HB0:=Hd hb0;clear hb0 hc;go_in;go_wp2_with (first
  | (refine wpList_buildTo rfl 51 _ rfl (some 3) rfl c47 (by as_aux_lemma=>kernel_rfl) ?_)
  | (refine wpList_buildTo rfl 54 _ rfl (some 4) rfl cxL (by as_aux_lemma=>kernel_rfl) ?_)
  | (refine Great.wpList_allocTo rfl (some 1) rfl (.pointer (some ⟨w.heap.size,0,none⟩)) (.cells zxL 54) (by as_aux_lemma=>kernel_rfl) ?_)
  | (refine wpList_store_rowTo rfl 54 _ _ rfl rfl w.heap.size cxL rfl rfl 54 zxL (heap_alloc_new w _) Ck rfl (by as_aux_lemma=>kernel_rfl) ?_)
  | ((with_reducible refine az ?_ 54 (.tmp 1) ?_ X1.o ?_ _ Tryz.underlying54 ?_ ?_ ?_);(iterate 4 rfl);exact Ck))
 refine HE.o.mono ?_;rintro e w1 ⟨A,c,x,y,rfl,hA,t1,t2,t3,t4,hb1⟩;obtain ⟨ad,rfl,_,h0⟩:=hA 0 (by simp);obtain ⟨ad',e',_,h1⟩:=hA 1 (by simp);injection e' with e';subst e';obtain ⟨q0,q1,_,q3⟩:=nU (a:=ad) (x:=x) h0;have h4:w1.cell? ⟨ad.block,ad.off+4,none⟩=some (.int .i64 y.r.ty):=h1 0 (by show 0 < 4;omega);rw [t1] at q0;rw [t2] at q1;rw [t3] at q3;rw [t4] at h4;have HB1:=Hd (aa HB0.o hb1);clear t1 t2 t3 t4 hb1 h0 h1 hA X1 HE;go_wp2_with fail;go_ret;exact ⟨rfl,HB1.o⟩
end Go.Proofs.YtollifnnpihfdaaGreatDoor
