import Derived.Test.YtnpaoepkpdileaaGreatDoorF32
set_option maxRecDepth 100000
set_option maxHeartbeats 64000000
set_option linter.all false
namespace Go.Proofs.YtnpaoepkpdileaaGreatDoor
open Go.RowKit
abbrev clC (z:Int) (a:Nat→Int) (P:Option Addr) (np cp:Nat) (G:Option Addr) (ng cg:Nat):Array Value:=#[.int .i64 z, .int .i64 (a 0), .int .i64 (a 1), .int .i64 (a 2), .int .i64 (a 3), .slice P np cp, .slice G ng cg]
def Gb (w:World) (e:Ending) (w' :World):Prop:=(∃ b:Bool,e= .returned (.bool b))∧w=w'
theorem Af (n:Int) (w:World):Calls Tryz.prog 58 #[.int .i64 n] w (Gb w):=by
 by_cases h:0≤n
 · go_in;go_wp2_with fail;go_ret;exact ⟨⟨_,rfl⟩,rfl⟩
 · go_in;go_wp2_with fail;go_ret;exact ⟨⟨_,rfl⟩,rfl⟩
def jR (z:Int):Nat:=if z=8∨z=13 then 2 else 1
theorem oJ (z:Int):(eT z).kL≤jR z:=by
 by_cases h:0≤z∧z < 22
 · obtain ⟨h0,h1⟩:=h;obtain ⟨k,rfl⟩:∃ k:Nat,z=k:=⟨z.toNat,by omega⟩;have hk:k < 22:=(by omega);have H:∀ q:Fin 22,(eT (q.val:Int)).kL≤jR (q.val:Int):=(by decide+kernel);exact H ⟨k,hk⟩
 · rw [jc (by omega)];exact Nat.zero_le _
def Ah (z:Int) (w:World) (e:Ending) (w' :World):Prop:=∃ (g n:Nat) (p:Nat→Int) (pc:Array Value),e= .returned (.slice (some ⟨g,0,none⟩) n n)∧jR z≤n∧n≤2∧w.heap.size≤g∧Blk w' g 3 pc∧(∀ k,k < n→pc[k]? =some (.int .i64 (p k)))∧Below w.heap.size w w'
theorem dS {w w0:World} {z:Int} (hb:Below w.heap.size w w0) (p:Int) (hz:jR z≤1):Ah z w (.returned (.slice (some ⟨w0.heap.size,0,none⟩) 1 1)) (w0.alloc (.cells #[.int .i64 p] 3)):=
 ⟨w0.heap.size,1,fun _=>p,_,rfl,hz,by omega,hb.size,Blk.new w0 #[.int .i64 p] 3,fun k hk=>by
  obtain rfl:k=0:=by omega
  rfl,hb.alloc hb.size _⟩
theorem qI {w w0:World} {z:Int} (hb:Below w.heap.size w w0) (p q:Int):Ah z w (.returned (.slice (some ⟨w0.heap.size,0,none⟩) 2 2)) (w0.alloc (.cells #[.int .i64 p, .int .i64 q] 3)):=
 ⟨w0.heap.size,2,fun k=>if k=0 then p else q,_,rfl,by unfold jR;split <;> omega,by omega,hb.size,Blk.new w0 #[.int .i64 p, .int .i64 q] 3,fun k hk=>by
  have h2:k=0∨k=1:=by omega
  rcases h2 with rfl | rfl
  · rfl
  · rfl,hb.alloc hb.size _⟩
theorem xO (z:Int) (a:Nat→Int) (P:Option Addr) (np cp:Nat) (G:Option Addr) (ng cg:Nat) (w:World):Calls Tryz.prog 56 #[.agg (clC z a P np cp G ng cg)] w (WbP w):=by
 have S0:=Hd (RdW.new w 33 (clC z a P np cp G ng cg));go_in;go_upto_region 1 with fail;generalize w.alloc (.cells (clC z a P np cp G ng cg) 33)=w0 at *;have c0:w0.cell? ⟨w.heap.size,0,none⟩=some (.int .i64 z):=S0.o.x.cell 0;have c1:w0.cell? ⟨w.heap.size,1,none⟩=some (.int .i64 (a 0)):=S0.o.x.cell 1;by_cases h6:z=6;case pos=>
  subst h6;go_wp2_with fail;go_ret;exact ⟨⟨_,rfl⟩,S0.o.b⟩
 case neg=>
  have p6:=(aO h6).1;by_cases h1:z=1;case pos=>
   subst h1;go_wp2_with fail;go_ret;exact ⟨⟨_,rfl⟩,S0.o.b⟩
  case neg=>
   have p1:=(aO h1).1;by_cases h14:z=14;case pos=>
    subst h14;go_wp2_with fail;go_ret;exact ⟨⟨_,rfl⟩,S0.o.b⟩
   case neg=>
    have p14:=(aO h14).1;by_cases h15:z=15;case pos=>
     subst h15;go_wp2_with fail;go_ret;exact ⟨⟨_,rfl⟩,S0.o.b⟩
    case neg=>
     have p15:=(aO h15).1;by_cases h16:z=16;case pos=>
      subst h16;go_wp2_with fail;go_ret;exact ⟨⟨_,rfl⟩,S0.o.b⟩
     case neg=>
      have p16:=(aO h16).1;by_cases h17:z=17;case pos=>
       subst h17;go_wp2_with fail;go_ret;exact ⟨⟨_,rfl⟩,S0.o.b⟩
      case neg=>
       have p17:=(aO h17).1;by_cases h21:z=21;case pos=>
        subst h21;go_wp2_with fail;go_ret;exact ⟨⟨_,rfl⟩,S0.o.b⟩
       case neg=>
        have p21:=(aO h21).1;go_wp2_with fail;go_ret;exact ⟨⟨_,rfl⟩,S0.o.b⟩
theorem Aj (z:Int) (a:Nat→Int) (P:Option Addr) (np cp:Nat) (G:Option Addr) (ng cg:Nat) (w:World):Calls Tryz.prog 54 #[.agg (clC z a P np cp G ng cg)] w (Ah z w):=by
 have S0:=Hd (RdW.new w 33 (clC z a P np cp G ng cg));go_in;go_upto_region 1 with fail;generalize w.alloc (.cells (clC z a P np cp G ng cg) 33)=w0 at *;have c0:w0.cell? ⟨w.heap.size,0,none⟩=some (.int .i64 z):=S0.o.x.cell 0;have c1:w0.cell? ⟨w.heap.size,1,none⟩=some (.int .i64 (a 0)):=S0.o.x.cell 1;by_cases h1:z=1;case pos=>
  subst h1;go_wp2_with fail;go_ret;exact dS S0.o.b _ (by decide)
 case neg=>
  have p1:=(aO h1).1;by_cases h6:z=6;case pos=>
   subst h6;cases b1:(bits BinOp.and IntKind.i64 (a 0) 1 == 0) with
   | true=>
    cases b2:(bits BinOp.and IntKind.i64 (a 0) 22 == 0) with
    | true=>
     go_wp2_with fail;go_ret;exact dS S0.o.b _ (by decide)
    | false=>
     go_wp2_with fail;go_ret;exact dS S0.o.b _ (by decide)
   | false=>
    cases b2:(bits BinOp.and IntKind.i64 (a 0) 22 == 0) with
    | true=>
     go_wp2_with fail;go_ret;exact dS S0.o.b _ (by decide)
    | false=>
     go_wp2_with fail;go_ret;exact dS S0.o.b _ (by decide)
  case neg=>
   have p6:=(aO h6).1;by_cases h8:z=8;case pos=>
    subst h8;go_wp2_with fail;go_ret;exact qI S0.o.b _ _
   case neg=>
    have p8:=(aO h8).1;by_cases h13:z=13;case pos=>
     subst h13;go_wp2_with fail;go_ret;exact qI S0.o.b _ _
    case neg=>
     have p13:=(aO h13).1;by_cases h14:z=14;case pos=>
      subst h14;go_wp2_with fail;go_ret;exact dS S0.o.b _ (by decide)
     case neg=>
      have p14:=(aO h14).1;by_cases h15:z=15;case pos=>
       subst h15;go_wp2_with fail;go_ret;exact dS S0.o.b _ (by decide)
      case neg=>
       have p15:=(aO h15).1;by_cases h17:z=17;case pos=>
        subst h17;go_wp2_with fail;go_ret;exact dS S0.o.b _ (by decide)
       case neg=>
        have p17:=(aO h17).1;by_cases h16:z=16;case pos=>
         subst h16;go_wp2_with fail;go_ret;exact dS S0.o.b _ (by decide)
        case neg=>
         have p16:=(aO h16).1;go_wp2_with fail;go_ret;exact dS S0.o.b _ (by unfold jR;rw [if_neg (fun h=>h.elim h8 h13)];exact Nat.le_refl 1)
def jD (dev:Int) (m:Mt):Bool:= !(m.dev == dev)
theorem vP {ms:List Mt} {k:Nat} {dev:Int} (hk:k < ms.length) (h:(ms[k].dev == dev)=false):(ms.take (k+1)).filter (jD dev)=(ms.take k).filter (jD dev) ++ [ms[k]]:=by
 rw [List.take_succ_eq_append_getElem hk,List.filter_append,List.filter_cons_of_pos (by unfold jD;rw [h];rfl)];rfl
theorem take_left {ms:List Mt} {k:Nat} {dev:Int} (hk:k < ms.length) (h:(ms[k].dev == dev)=true):(ms.take (k+1)).filter (jD dev)=(ms.take k).filter (jD dev):=by
 rw [List.take_succ_eq_append_getElem hk,List.filter_append,List.filter_cons_of_neg (by unfold jD;rw [h];decide)];simp
def Gf (f:List Dv) (ms:List Mt) (dev:Int) (f' :List Dv) (ms' :List Mt):Prop:=f' =f∧ms' =ms.filter (jD dev)∧∀ m∈ms,m.od≠dev
theorem SOk.rem {f f' :List Dv} {ms ms' :List Mt} {dev:Int} (h:SOk f ms) (hr:Gf f ms dev f' ms'):SOk f' ms' :=by
 obtain ⟨rfl,rfl,h3⟩:=hr;exact ⟨h.1,(h.2.remove h3).1⟩
theorem vQ (dev:Int) (ds:List Dm) (A:Option Addr) (n c:Nat) (hn:n=ds.length) (ms:List Mt) (Am:Option Addr) (nm cm:Nat) (hnm:nm=ms.length) (hl:nm≤1000) (w:World) (hf:dO w w.heap.size A ds) (hm:AtE EMt w w.heap.size Am ms):
  Calls Tryz.prog 129 #[.agg #[slV A n c,slV Am nm cm], .int .i64 dev] w (nS (Gf (ds.map Dm.dv) ms dev) w):=by
 have HN:=Hd hn;have HNM:=Hd hnm;have HL:=Hd hl;have B0:=aY w #[slV A n c,slV Am nm cm] #[.slice none 0 0, .slice none 0 0] 42 42;have h2:=Blk.new (w.alloc (.cells #[slV A n c,slV Am nm cm] 42)) #[.slice none 0 0, .slice none 0 0] 42;simp only [World.size_alloc] at h2;have S0:=Hd (show SpF w ((w.alloc (.cells #[slV A n c,slV Am nm cm] 42)).alloc (.cells #[.slice none 0 0, .slice none 0 0] 42)) A n c ds Am nm cm ms (w.heap.size+1) from ⟨B0,hf.keep B0 (Nat.le_refl _),hm.keep B0 (Nat.le_refl _),(Blk.new w _ _).alloc _,h2,Nat.le_refl _⟩);have hw0:((w.alloc (.cells #[slV A n c,slV Am nm cm] 42)).alloc (.cells #[.slice none 0 0, .slice none 0 0] 42)).heap.size=(w.heap.size+1+1):=by simp
 clear B0 h2 hf hm hn hnm hl;go_in;go_upto_region 1 with fail;generalize (w.alloc (.cells #[slV A n c,slV Am nm cm] 42)).alloc (.cells #[.slice none 0 0, .slice none 0 0] 42)=w0 at *;by_cases hd0:dev=0;case pos=>
  have q1:=(bJ hd0).1;go_wp2_with ((with_reducible refine ae ?_ 42 (.tmp 4) (.tmp 17) ?_ S0.o.R #[.slice none 0 0, .slice none 0 0] ?_ ?_ ?_ ?_ ?_ ?_);(iterate 4 rfl);(exact gy _ _);rfl;(exact fe _ _ _ _ _ _));refine bodyPost_ret (dQ (fn:=Tryz.f129) rfl _ _ _ (.slice none 0 0) (.slice none 0 0) rfl (Blk.row S0.o.R _)) rfl ?_;exact S0.o.err _ (by decide)
 case neg=>
  have q1:=(aO hd0).1;have v0:=S0.o.V.cell 0;have v1:=S0.o.V.cell 1;go_wp2_with fail;clear v0 v1;refine (nP dev A n c ms Am nm cm HNM.o HL.o w0 S0.o.aW).mono ?_;rintro e w1 ⟨rfl,hb⟩;have S1:=Hd (S0.o.grow hb);have HW1:=Hd (show (w.heap.size+1+1)≤w1.heap.size by have:=hb.size;omega);clear hb S0 hw0;cases hmn:iq ms dev with
  | false=>
   clear hmn;go_wp2_with ((with_reducible refine ae ?_ 42 (.tmp 4) (.tmp 17) ?_ S1.o.R #[.slice none 0 0, .slice none 0 0] ?_ ?_ ?_ ?_ ?_ ?_);(iterate 4 rfl);(exact gy _ _);rfl;(exact fe _ _ _ _ _ _));refine bodyPost_ret (dQ (fn:=Tryz.f129) rfl _ _ _ (.slice none 0 0) (.slice none 0 0) rfl (Blk.row S1.o.R _)) rfl ?_;exact S1.o.err _ (by decide)
  | true=>
   clear hmn q1 hd0;go_wp2_with fail;go_loopw [6,7] (fun v ix wr=>∃ k:Nat,k≤ms.length∧ix= .int .i64 k∧ay EMt wr (w.heap.size+1+1) v ((ms.take k).filter (jD dev))∧Hid (SpF w wr A n c ds Am nm cm ms (w.heap.size+1))∧Hid ((w.heap.size+1+1)≤wr.heap.size)∧Hid (∀ m∈ms.take k,m.od≠dev)) (fun _ ix _=>ms.length - (intOf ix).toNat);case atStart=>exact ⟨0,Nat.zero_le _,rfl,ay.nil _ _,S1,HW1,Hd (fun m hm=>by simp at hm)⟩
   case round=>
    clear S1 HW1;obtain ⟨k,hk,rfl,hown,HS,HW,HO⟩:=hrel;have HV:=Hd hown;clear hown;have v1:=HS.o.V.cell 1;have hn:=HNM.o;have WK:=Hd (dB hk (by have:=HL.o;omega));by_cases hlt:k < ms.length;case neg=>
     have hkn:k=ms.length:=(by omega);subst hkn;rw [List.take_length] at HV HO;have k1:¬ (ms.length:Int) < (nm:Int):=(by omega);clear hn hlt hk WK;have v0:=HS.o.V.cell 0;go_wp2_with fail;clear v0 v1 k1;refine (o7 ds A n c HN.o ms Am nm cm HNM.o HL.o wr HS.o.files HS.o.aW).mono ?_;rintro e w6 ⟨A6,n6,c6,A7,n7,c7,es,rfl,hfs,he,hms,hb⟩;have S6:=Hd (HS.o.grow hb);have V6:=Hd (HV.o.below hb);have HW6:=Hd (Nat.le_trans HW.o hb.size);have S7:=Hd (S6.o.alloc (.cells (spC (slV A6 n6 c6) (slV A7 n7 c7)) 42));have O7:=Hd (Blk.new w6 (spC (slV A6 n6 c6) (slV A7 n7 c7)) 42);have hbn:Below w6.heap.size w6 (w6.alloc (.cells (spC (slV A6 n6 c6) (slV A7 n7 c7)) 42)):=(Below.refl w6.heap.size w6).alloc (Nat.le_refl _) _;have F7:=Hd (hfs.below hbn);have V7:=Hd (V6.o.below hbn);have HE:=Hd he;clear hfs he hms hb hbn S6 V6 HS HV;obtain ⟨A9,c9,e9,_⟩:=V7.o.at;subst e9;go_upto_region 12 with fail;generalize w6.alloc (.cells (spC (slV A6 n6 c6) (slV A7 n7 c7)) 42)=w7 at *;generalize hM:ms.filter (jD dev)=M at *;have HM:=Hd hM;clear hM;have o1:=O7.o.cell 1;have of:=O7.o.free 1;have gc:=av w7 w6.heap.size 1 (.slice A9 M.length c9);have S10:=Hd (S7.o.keep (B:=(w.heap.size+1+1)) ((Below.refl (w.heap.size+1+1) w7).setCell (p:=⟨w6.heap.size,1,none⟩) HW6.o (.slice A9 M.length c9)) (Nat.lt_succ_self _));have O10:=Hd (show Blk (w7.setCell ⟨w6.heap.size,1,none⟩ (.slice A9 M.length c9)) w6.heap.size 42 (spC (slV A6 n6 c6) (slV A9 M.length c9)) from O7.o.put 1 _);have F10:=Hd (F7.o.far gc (fun q e=>by injection e with e;subst e;exact ⟨aC F7.o.own O7.o (by decide),fun dd hdd=>aC (F7.o.nodes dd hdd).1 O7.o (by decide),fun dd hdd y hy=>aC (F7.o.df dd hdd y hy).1 O7.o (by decide)⟩));have M10:=Hd (V7.o.far gc (fun q e r=>by injection r with r;subst r;exact aC V7.o O7.o (by decide) e));clear gc S7 O7 F7 V7;go_upto_region 13 with fail;clear o1 of;generalize w7.setCell ⟨w6.heap.size,1,none⟩ (.slice A9 M.length c9)=w10 at *;go_wp2_with (first | ((with_reducible refine ax ?_ 42 (.tmp 8) ?_ O10.o ?_ _ Tryz.underlying42 ?_ ?_ ?_);(iterate 4 rfl);exact gy _ _) | ((with_reducible refine ae ?_ 42 (.tmp 4) (.tmp 55) ?_ S10.o.R (spC (slV A6 n6 c6) (slV A9 M.length c9)) ?_ ?_ ?_ ?_ ?_ ?_);(iterate 4 rfl);(exact gy _ _);rfl;(exact fe _ _ _ _ _ _)));refine bodyPost_ret (dQ (fn:=Tryz.f129) rfl _ _ (w.heap.size+1) (slV A6 n6 c6) (slV A9 M.length c9) rfl (Blk.row S10.o.R _)) rfl ?_;have gr:=aA w10 (w.heap.size+1) (spC (slV A6 n6 c6) (slV A9 M.length c9));exact ⟨ai S10.o.low (by omega) _, .inr ⟨A6,n6,c6,A9,M.length,c9,es,M,rfl,(F10.o.far gr (fun q e=>by injection e with e;subst e;exact F10.o.old (by have:=HW.o;omega))).low (by have:=HW.o;omega),(M10.o.far gr (fun q e r=>by injection r with r;have:=M10.o.ge q e;omega)).low (by omega),HE.o,HM.o.symm,HO.o⟩⟩
    case pos=>
     have k1:(k:Int) < (nm:Int):=(by omega);have k2:(0:Int)≤(k:Int):=(by omega);obtain ⟨am,rfl,hab,hcx⟩:=HS.o.aW k hlt;obtain ⟨m0,m1,m2⟩:=mD (a:=am.add (k * 3)) hcx;have HXT:=Hd (fun h:(ms[k].dev == dev)=true=>take_left hlt h);have HXF:=Hd (fun h:(ms[k].dev == dev)=false=>vP hlt h);have HO2:=Hd (show ms[k].od≠dev→∀ m∈ms.take (k+1),m.od≠dev from fun h m hm=>by rw [List.take_succ_eq_append_getElem hlt] at hm;rcases List.mem_append.1 hm with h1 | h1;exact HO.o m h1;rw [List.mem_singleton.1 h1];exact h);have HLF:=Hd (show ((ms.take k).filter (jD dev)).length≤1000 from Nat.le_trans (List.length_filter_le _ _) (by rw [List.length_take];have:=HL.o;omega));clear hcx hn;generalize ms[k]=m at *;by_cases ho:m.od=dev;case pos=>
      have q2:=(bJ ho).1;go_wp2_with ((with_reducible refine ae ?_ 42 (.tmp 4) (.tmp 34) ?_ HS.o.R #[.slice none 0 0, .slice none 0 0] ?_ ?_ ?_ ?_ ?_ ?_);(iterate 4 rfl);(exact gy _ _);rfl;(exact fe _ _ _ _ _ _));refine bodyPost_ret (dQ (fn:=Tryz.f129) rfl _ _ _ (.slice none 0 0) (.slice none 0 0) rfl (Blk.row HS.o.R _)) rfl ?_;exact HS.o.err _ (by decide)
     case neg=>
      have q2:=(aO ho).1;have HON:=Hd (HO2.o ho);clear HO2 ho;by_cases hmd:m.dev=dev;case pos=>
       have q3:=(bJ hmd).2;have HX:=HXT.o (bJ hmd).1;have HV2:=Hd (show ay EMt wr (w.heap.size+1+1) u6 ((ms.take (k+1)).filter (jD dev)) by rw [HX];exact HV.o);clear HXT HXF HX hmd;obtain ⟨wk1,wk2⟩:=WK.o;go_wp2_with fail;clear wk1 wk2;go_roundw;case rel=>exact ⟨k+1,hlt,rfl,HV2.o,HS,HW,HON⟩
       case measure=>exact aZ hlt _ rfl
      case neg=>
       have q3:=(aO hmd).2;have HX:=Hd (HXF.o (aO hmd).1);clear HXT HXF hmd;generalize (ms.take k).filter (jD dev)=l at *;obtain ⟨A8,c8,e8,_⟩:=HV.o.at;subst e8;obtain ⟨wk1,wk2⟩:=WK.o;have RW:=Hd (aR EMt wr (mtC m) 197 m rfl (Nat.lt_succ_self wr.heap.size));have V8:=Hd (HV.o.alloc (.cells (mtC m) 197));have S8:=Hd (HS.o.alloc (.cells (mtC m) 197));go_wp2_with (at_builtin;refine ak EMt rfl (.tmp 43) (.tmp 49) rfl (w.heap.size+1+1) (slV A8 l.length c8) l rfl V8.o (wr.heap.size+1) (some ⟨wr.heap.size,0,none⟩) 1 1 [m] rfl rfl RW.o (by have:=HLF.o;simp;omega) (by have:=HW.o;simp;omega) ?_);intro v9 w9 ho9 hg9 oW;clear v1 m0 m1 m2;have S9:=Hd (S8.o.keep (B:=(w.heap.size+1+1)) ((Below.refl (w.heap.size+1+1) _).grown hg9 (by have:=HW.o;simp;omega) (fun q e=>V8.o.ge q e)) (Nat.lt_succ_self _));have HW9:=Hd (show (w.heap.size+1+1)≤w9.heap.size from Nat.le_trans HW.o (Nat.le_trans (by simp) hg9.size));have HV9:=Hd (show ay EMt w9 (w.heap.size+1+1) v9 ((ms.take (k+1)).filter (jD dev)) by rw [HX.o];exact ho9);clear ho9 hg9 oW V8 S8 HS HV RW;go_wp2_with fail;clear wk1 wk2;go_roundw;case rel=>exact ⟨k+1,hlt,rfl,HV9.o,S9,HW9,HON⟩
       case measure=>exact aZ hlt _ rfl
theorem TcF.Gg {w wr:World} {go gx i:Nat} {a b:Int} {v V:Value} {ys ps:List Pm} {A:Option Addr} {cs:Array Value} (h:TcF w wr go a b v ys V A ps) (hX:Blk wr gx 29 cs) (hq:v.ownBlock≠some gx) (hgo:go < gx) (u:Value):TcF w (wr.setCell ⟨gx,i,none⟩ u) go a b v ys V A ps:=by
 have hh:=h.h;exact ⟨h.O.far (av wr gx i u) (fun q e=>by injection e with e;subst e;exact ⟨hq,fun x hx=>aC (h.O.op x hx).1 hX (by decide)⟩),h.G.ag _ (by show go≠gx;omega),h.R.ag _ (by show w.heap.size+1≠gx;omega),h.V.ag _ (by show w.heap.size≠gx;omega),h.D.keep ((Below.refl _ wr).setCell (p:=⟨gx,i,none⟩) (by show w.heap.size≤gx;omega) u) (Nat.le_refl _),h.B.setCell (p:=⟨gx,i,none⟩) (by show w.heap.size≤gx;omega) u,hh⟩
theorem yM (a b:Int) (ps:List Pm) (A:Option Addr) (n c:Nat) (hn:n=ps.length) (hl:n≤16) (hk:∀ x∈ps,x.Ok) (pid:Int) (w:World) (h:jI w w.heap.size A ps):
   Calls Tryz.prog 102 #[.agg (tbC a b (.slice A n c)), .int .i64 pid] w (TbP w):=by
 have HN:=Hd hn;have HL:=Hd hl;have HK:=Hd hk;have hb0:=aY w (tbC a b (.slice A n c)) (tbC 0 0 (.slice none 0 0)) 45 45;have h2:=Blk.new (w.alloc (.cells (tbC a b (.slice A n c)) 45)) (tbC 0 0 (.slice none 0 0)) 45;simp only [World.size_alloc] at h2;have B0:=Hd hb0;have V0:=Hd ((Blk.new w (tbC a b (.slice A n c)) 45).alloc (.cells (tbC 0 0 (.slice none 0 0)) 45));have R0:=Hd h2;have D0:=Hd (h.keep hb0 (Nat.le_refl _));clear h hn hl hk hb0 h2;go_in;go_upto_region 1 with fail;generalize ((w.alloc (.cells (tbC a b (.slice A n c)) 45)).alloc (.cells (tbC 0 0 (.slice none 0 0)) 45))=w0 at *;go_wp2_with ((with_reducible refine ax ?_ 45 (.tmp 2) ?_ V0.o ?_ _ Tryz.underlying45 ?_ ?_ ?_);(iterate 4 rfl);exact aK _ _ _);refine (jP a b pid ps A n c HN.o w0 (D0.o.more B0.o.size)).mono ?_;rintro e w1 ⟨hb1,rfl | ⟨y,hy,A2,c2,rfl,ho⟩⟩
 · have hba:=(Below.refl w1.heap.size w1).alloc (Nat.le_refl _) (.cells (psC zPc (.slice none 0 0)) 29);have hbb:=aa hb1 hba;have R1:=Hd (R0.o.below hbb);have V1:=Hd (V0.o.below hbb);have B1:=Hd (aa B0.o hbb);have D1:=Hd (D0.o.keep hbb B0.o.size);clear hba hbb hb1 V0 R0 B0 D0;go_wp2_with ((with_reducible refine ae ?_ 45 (.tmp 4) (.tmp 19) ?_ R1.o (tbC 0 0 (.slice none 0 0)) ?_ ?_ ?_ ?_ ?_ ?_);(iterate 4 rfl);(exact aK _ _ _);rfl;(exact aN _ _ _ _ _));refine bodyPost_ret (aQ (fn:=Tryz.f102) rfl _ _ (w.heap.size+1) 0 0 (.slice none 0 0) rfl (Blk.row R1.o _)) rfl ?_;exact dF R1.o B1.o (by omega) (by decide)
 · have hba:=(Below.refl w1.heap.size w1).alloc (Nat.le_refl _) (.cells (psC y.p (.slice A2 y.ds.length c2)) 29);have hbb:=aa hb1 hba;have R1:=Hd (R0.o.below hbb);have V1:=Hd (V0.o.below hbb);have B1:=Hd (aa B0.o hbb);have D1:=Hd (D0.o.keep hbb B0.o.size);clear hba hbb hb1 V0 R0 B0 D0 ho hy;go_upto_region 4 with fail;generalize w1.alloc (.cells (psC y.p (.slice A2 y.ds.length c2)) 29)=w2 at *
   skip
   by_cases h1:pid=1;case pos=>
    subst h1;go_wp2_with ((with_reducible refine ae ?_ 45 (.tmp 4) (.tmp 22) ?_ R1.o (tbC 0 0 (.slice none 0 0)) ?_ ?_ ?_ ?_ ?_ ?_);(iterate 4 rfl);(exact aK _ _ _);rfl;(exact aN _ _ _ _ _));refine bodyPost_ret (aQ (fn:=Tryz.f102) rfl _ _ (w.heap.size+1) 0 0 (.slice none 0 0) rfl (Blk.row R1.o _)) rfl ?_;exact dF R1.o B1.o (by omega) (by decide)
   have p1:=(aO h1).1;clear h1;have v0:=V1.o.cell 0;have v1:=V1.o.cell 1;have hba:=(Below.refl w2.heap.size w2).alloc (Nat.le_refl _) (.cells (tbC a b (.slice none 0 0)) 45);have F1:=Hd (show TcF w (w2.alloc (.cells (tbC a b (.slice none 0 0)) 45)) w2.heap.size a b (.slice none 0 0) [] (.slice A n c) A ps from ⟨aJ.nil _ _,Blk.new w2 _ _,R1.o.below hba,V1.o.below hba,D1.o.keep hba B1.o.size,aa B1.o hba,R1.o.lt⟩);go_upto_region 7 with fail;clear v0 v1 p1 hba V1 R1 B1 D1;generalize w2.alloc (.cells (tbC a b (.slice none 0 0)) 45)=w4 at *;generalize w2.heap.size=go at *;go_wp2_with fail;go_loopw [9,10] (fun i _p wr=>∃ (k:Nat) (A0:Option Addr) (n0 c0:Nat) (ys:List Pm),k≤ps.length∧i= .int .i64 k∧Hid (ys.length≤k)∧Hid (TcF w wr go a b (.slice A0 n0 c0) ys (.slice A n c) A ps)) (fun i _ _=>ps.length - (intOf i).toNat);case atStart=>exact ⟨0,none,0,0, [],Nat.zero_le _,rfl,Hd (Nat.le_refl _),F1⟩
   case round=>
    clear F1;obtain ⟨k,A0,n0,c0,ys,hk,rfl,HY,HF⟩:=hrel;have v2:=HF.o.V.cell 2;have hn:=HN.o;by_cases hlt:k < ps.length;case pos=>
     have k1:(k:Int) < (n:Int):=(by omega);have k2:(0:Int)≤(k:Int):=(by omega);have WK:=Hd (dB hk (by have:=HL.o;omega));have HKL:=Hd (show k+1≤16 by have:=HL.o;omega);clear hn;obtain ⟨am,rfl,hab,hcx⟩:=HF.o.D.at_ k hlt;have HXA:=Hd (HF.o.D.opens _ (List.getElem_mem hlt)).1;have HXK:=Hd (HK.o _ (List.getElem_mem hlt));generalize ps[k]=x at *;obtain ⟨⟨m0,m1,m2,m3,m4,m5,m6⟩,m7,m8,m9,m10,m11,m12,m13⟩:=eO (a:=am.add (k * 14)) hcx;clear hcx;go_wp2_with fail;clear m0 m1 m2 m3 m4 m5 m6 m7 m8 m9 m10 m11 m12 m13 v2 k1;refine (qb x.p x.ds x.A x.ds.length x.c rfl (by have:=HXK.o.1;omega) wr (HXA.o.more HF.o.B.size)).mono ?_;rintro e w3 ⟨A3,c3,rfl,ho3,hb3⟩;have hba:=(Below.refl w3.heap.size w3).alloc (Nat.le_refl _) (.cells (psC x.p (.slice A3 x.ds.length c3)) 29);have F3:=Hd ((HF.o.below hb3).below hba);have O3:=Hd ((ho3.low HF.o.B.size).below hba);have X3:=Hd (Blk.new w3 (psC x.p (.slice A3 x.ds.length c3)) 29);have HQ:=Hd (show (Value.slice A0 n0 c0).ownBlock≠some w3.heap.size from fun e=>by have:=(HF.o.below hb3).O.own.lt _ e;omega);have hgo:=(HF.o.below hb3).G.lt;clear hba hb3 ho3 HF HXA;go_upto_region 11 with fail;generalize w3.alloc (.cells (psC x.p (.slice A3 x.ds.length c3)) 29)=w5 at *;generalize w3.heap.size=gx at *;have x1:=X3.o.cell 1;have g1:=X3.o.free 1;go_upto_if 44 with fail;go_cut [] (fun wx=>∃ p' :Pc,(p'.co.size≤640∧p'.ex.size≤640)∧TcF w wx go a b (.slice A0 n0 c0) ys (.slice (some am) n c) (some am) ps∧ay EDs wx w.heap.size (.slice A3 x.ds.length c3) x.ds∧Blk wx gx 29 (psC p' (.slice A3 x.ds.length c3)));case first=>
      by_cases hpp:x.p.pp=pid;case pos=>
       have q1:=(bJ hpp).1;have F5:=F3.o.Gg (i:=1) X3.o HQ.o hgo (.int .i64 1);have O5:=O3.o.dN (g:=gx) (i:=1) (aC O3.o X3.o (by decide)) (.int .i64 1);have X5:Blk _ gx 29 (psC { x.p with pp:=1 } (.slice A3 x.ds.length c3)):=X3.o.put 1 (.int .i64 1);go_wp2_with fail;go_meet;exact ⟨{ x.p with pp:=1 },HXK.o.2,F5,O5,X5⟩
      case neg=>
       have q1:=(aO hpp).1;go_wp2_with fail;go_meet;exact ⟨x.p,HXK.o.2,F3.o,O3.o,X3.o⟩
     case rest=>
     obtain ⟨p',hz,hf,ho,hx⟩:=hcut;clear x1 g1 F3 O3 X3;generalize wc=w6 at *;have F6:=Hd hf;have O6:=Hd ho;have X6:=Hd hx;have HZ:=Hd hz;clear hf ho hx hz;have x0:=X6.o.cell 0;by_cases Ay:p'.pid=pid;case pos=>
      have q1:=(bJ Ay).2;obtain ⟨wk1,wk2⟩:=WK.o;go_wp2_with fail;clear wk1 wk2 q1 x0;go_roundw;case rel=>exact ⟨k+1,A0,n0,c0,ys,hlt,rfl,Hd (by have:=HY.o;omega),F6⟩
      case measure=>exact aZ hlt _ rfl
     case neg=>
      have q1:=(aO Ay).2;go_upto_region 14 with fail;clear q1 x0;have hba:=(Below.refl w6.heap.size w6).alloc (Nat.le_refl _) (.cells (psC p' (.slice A3 x.ds.length c3)) 29);have F7:=Hd (F6.o.below hba);have O7:=Hd (show ay EDs (w6.alloc (.cells (psC p' (.slice A3 x.ds.length c3)) 29)) w.heap.size (⟨p',x.ds,A3,c3⟩:Pm).sl x.ds from O6.o.below hba);have RW:=Hd (aR EPc w6 (psC p' (.slice A3 x.ds.length c3)) 29 (⟨p',x.ds,A3,c3⟩:Pm) rfl (Nat.lt_succ_self w6.heap.size));have g2:=F6.o.G.cell 2;clear hba F6 O6;go_wp2_with (first | ((with_reducible refine ax ?_ 29 (.tmp 10) ?_ X6.o ?_ _ Tryz.underlying29 ?_ ?_ ?_);(iterate 4 rfl);exact gU _ _) | (at_builtin;refine ak EPc rfl (.tmp 51) (.tmp 53) rfl w.heap.size (.slice A0 n0 c0) ys rfl F7.o.O.own (w6.heap.size+1) (some ⟨w6.heap.size,0,none⟩) 1 1 [(⟨p',x.ds,A3,c3⟩:Pm)] rfl rfl RW.o (by have:=HY.o;have:=HKL.o;simp;omega) F7.o.B.size ?_));intro v8 w8 ho8 hg8 wO;clear g2;obtain ⟨A9,c9,e9,_⟩:=ho8.at;rw [show (ys ++ [(⟨p',x.ds,A3,c3⟩:Pm)]).length=ys.length+1 by simp] at e9;subst e9;have HG8:=F7.o.G.grown hg8 (aC F7.o.O.own F7.o.G (by decide));have F9:=Hd (F7.o.app (x:=(⟨p',x.ds,A3,c3⟩:Pm)) ⟨O7.o,HXK.o.1,HZ.o⟩ ho8 hg8 (by have:=HY.o;have:=HKL.o;omega));have HY9:=Hd (show (ys ++ [(⟨p',x.ds,A3,c3⟩:Pm)]).length≤k+1 by have:=HY.o;rw [List.length_append];show ys.length+1≤_;omega);have c2:=HG8.cell 2;have f2:=HG8.free 2;clear ho8 hg8 wO RW O7 F7 X6 HG8;generalize ys.length+1=yl at *;obtain ⟨wk1,wk2⟩:=WK.o;go_wp2_with fail;clear wk1 wk2 c2 f2;go_roundw;case rel=>exact ⟨k+1,A9,yl,c9,_,hlt,rfl,HY9,F9⟩
      case measure=>exact aZ hlt _ rfl
    case neg=>
     have k1:¬ (k:Int) < (n:Int):=(by omega);clear hn;go_wp2_with (first | ((with_reducible refine ax ?_ 45 (.tmp 8) ?_ HF.o.G ?_ _ Tryz.underlying45 ?_ ?_ ?_);(iterate 4 rfl);exact aK _ _ _) | ((with_reducible refine ae ?_ 45 (.tmp 4) (.tmp 56) ?_ HF.o.R (tbC a b (.slice A0 n0 c0)) ?_ ?_ ?_ ?_ ?_ ?_);(iterate 4 rfl);(exact aK _ _ _);rfl;(exact aN _ _ _ _ _)));refine bodyPost_ret (aQ (fn:=Tryz.f102) rfl _ _ (w.heap.size+1) a b (.slice A0 n0 c0) rfl (Blk.row HF.o.R _)) rfl ?_;exact jK HF.o.O HF.o.R HF.o.B (by omega)
theorem De (a b:Int) (ps:List Pm) (A:Option Addr) (n c:Nat) (hn:n=ps.length) (hl:n≤16) (hk:∀ x∈ps,x.Ok) (pid tg:Int) (en:Bool) (w:World) (h:jI w w.heap.size A ps):
   Calls Tryz.prog 108 #[.agg (tbC a b (.slice A n c)), .int .i64 pid, .int .i64 tg, .bool en] w (TbP w):=by
 have HN:=Hd hn;have HL:=Hd hl;have HK:=Hd hk;have hb0:=aY w (tbC a b (.slice A n c)) (tbC 0 0 (.slice none 0 0)) 45 45;have h2:=Blk.new (w.alloc (.cells (tbC a b (.slice A n c)) 45)) (tbC 0 0 (.slice none 0 0)) 45;simp only [World.size_alloc] at h2;have B0:=Hd hb0;have V0:=Hd ((Blk.new w (tbC a b (.slice A n c)) 45).alloc (.cells (tbC 0 0 (.slice none 0 0)) 45));have R0:=Hd h2;have D0:=Hd (h.keep hb0 (Nat.le_refl _));clear h hn hl hk hb0 h2;go_in;go_upto_region 1 with fail;generalize ((w.alloc (.cells (tbC a b (.slice A n c)) 45)).alloc (.cells (tbC 0 0 (.slice none 0 0)) 45))=w0 at *;go_wp2_with ((with_reducible refine ax ?_ 45 (.tmp 4) ?_ V0.o ?_ _ Tryz.underlying45 ?_ ?_ ?_);(iterate 4 rfl);exact aK _ _ _);refine (jP a b pid ps A n c HN.o w0 (D0.o.more B0.o.size)).mono ?_;rintro e w1 ⟨hb1,rfl | ⟨y,hy,A2,c2,rfl,ho⟩⟩
 · have hba:=(Below.refl w1.heap.size w1).alloc (Nat.le_refl _) (.cells (psC zPc (.slice none 0 0)) 29);have hbb:=aa hb1 hba;have R1:=Hd (R0.o.below hbb);have B1:=Hd (aa B0.o hbb);clear hba hbb hb1 V0 R0 B0 D0;go_wp2_with ((with_reducible refine ae ?_ 45 (.tmp 8) (.tmp 21) ?_ R1.o (tbC 0 0 (.slice none 0 0)) ?_ ?_ ?_ ?_ ?_ ?_);(iterate 4 rfl);(exact aK _ _ _);rfl;(exact aN _ _ _ _ _));refine bodyPost_ret (aQ (fn:=Tryz.f108) rfl _ _ (w.heap.size+1) 0 0 (.slice none 0 0) rfl (Blk.row R1.o _)) rfl ?_;exact dF R1.o B1.o (by omega) (by decide)
 · have hba:=(Below.refl w1.heap.size w1).alloc (Nat.le_refl _) (.cells (psC y.p (.slice A2 y.ds.length c2)) 29);have hbb:=aa hb1 hba;have hr1:=(R0.o.below hb1).lt;have F1:=Hd (show GtF w (w1.alloc (.cells (psC y.p (.slice A2 y.ds.length c2)) 29)) (w.heap.size+1) w1.heap.size a b A n c ps ⟨y.p,y.ds,A2,c2⟩ from ⟨V0.o.below hbb,R0.o.below hbb,Blk.new w1 _ _,(ho.low B0.o.size).below hba,D0.o.keep hbb B0.o.size,aa B0.o hbb,⟨by omega,hr1⟩,HK.o y hy⟩);clear hba hbb hb1 V0 R0 B0 D0 ho hr1 hy;go_upto_region 4 with fail;generalize w1.alloc (.cells (psC y.p (.slice A2 y.ds.length c2)) 29)=w2 at *;generalize w1.heap.size=gp at *;go_wp2_with ((with_reducible refine ax ?_ 45 (.tmp 4) ?_ F1.o.V ?_ _ Tryz.underlying45 ?_ ?_ ?_);(iterate 4 rfl);exact aK _ _ _);refine (jP a b tg ps A n c HN.o w2 (F1.o.D.more F1.o.B.size)).mono ?_;rintro e w3 ⟨hb3,rfl | ⟨z,hz,A3,c3,rfl,ho3⟩⟩
   · have hba:=(Below.refl w3.heap.size w3).alloc (Nat.le_refl _) (.cells (psC zPc (.slice none 0 0)) 29);have F3:=Hd (F1.o.below (aa hb3 hba));clear hba hb3 F1;go_wp2_with ((with_reducible refine ae ?_ 45 (.tmp 8) (.tmp 30) ?_ F3.o.R (tbC 0 0 (.slice none 0 0)) ?_ ?_ ?_ ?_ ?_ ?_);(iterate 4 rfl);(exact aK _ _ _);rfl;(exact aN _ _ _ _ _));refine bodyPost_ret (aQ (fn:=Tryz.f108) rfl _ _ (w.heap.size+1) 0 0 (.slice none 0 0) rfl (Blk.row F3.o.R _)) rfl ?_;exact dF F3.o.R F3.o.B (by omega) (by decide)
   · have hba:=(Below.refl w3.heap.size w3).alloc (Nat.le_refl _) (.cells (psC z.p (.slice A3 z.ds.length c3)) 29);have F3:=Hd (F1.o.below (aa hb3 hba));have Q3:=Hd (Blk.new w3 (psC z.p (.slice A3 z.ds.length c3)) 29);clear hba hb3 F1 ho3 hz;go_upto_region 7 with fail;generalize w3.alloc (.cells (psC z.p (.slice A3 z.ds.length c3)) 29)=w4 at *;generalize w3.heap.size=gq at *;have x3:=F3.o.X.cell 3;have q2:=Q3.o.cell 2;go_cut [44] (fun u wx=>(∃ bb:Bool,u= .bool bb)∧w4=wx);case first=>
      by_cases h1:tg=1;case pos=>
       have e1:=(bJ h1).1;clear h1;go_wp2_with fail;go_meet;exact ⟨⟨_,rfl⟩,rfl⟩
      case neg=>
       have e1:=(aO h1).1;clear h1;by_cases h2:y.p.eu=0;case pos=>
        have e2:=(bJ h2).2;clear h2;go_wp2_with fail;go_meet;exact ⟨⟨_,rfl⟩,rfl⟩
       case neg=>
        have e2:=(aO h2).2;clear h2;go_wp2_with fail;go_meet;exact ⟨⟨_,rfl⟩,rfl⟩
     case rest=>
     obtain ⟨⟨bb,rfl⟩,rfl⟩:=hcut;clear x3 q2 Q3;cases bb;case true=>
      go_wp2_with ((with_reducible refine ae ?_ 45 (.tmp 8) (.tmp 45) ?_ F3.o.R (tbC 0 0 (.slice none 0 0)) ?_ ?_ ?_ ?_ ?_ ?_);(iterate 4 rfl);(exact aK _ _ _);rfl;(exact aN _ _ _ _ _));refine bodyPost_ret (aQ (fn:=Tryz.f108) rfl _ _ (w.heap.size+1) 0 0 (.slice none 0 0) rfl (Blk.row F3.o.R _)) rfl ?_;exact dF F3.o.R F3.o.B (by omega) (by decide)
     cases en;case false=>
      go_wp2_with ((with_reducible refine ax ?_ 45 (.tmp 4) ?_ F3.o.V ?_ _ Tryz.underlying45 ?_ ?_ ?_);(iterate 4 rfl);exact aK _ _ _);refine (qm a b ps A n c HN.o HL.o HK.o w4 (F3.o.D.more F3.o.B.size)).mono ?_;rintro e w5 ⟨A5,n5,c5,zs,rfl,hO,hb5,_⟩;have R5:=Hd (F3.o.R.below hb5);have B5:=Hd (aa F3.o.B hb5);have O5:=Hd (hO.low F3.o.B.size);clear hO hb5 F3;go_wp2_with ((with_reducible refine ae ?_ 45 (.tmp 8) (.tmp 53) ?_ R5.o (tbC a b (.slice A5 n5 c5)) ?_ ?_ ?_ ?_ ?_ ?_);(iterate 4 rfl);(exact aK _ _ _);rfl;(exact aN _ _ _ _ _));refine bodyPost_ret (aQ (fn:=Tryz.f108) rfl _ _ (w.heap.size+1) a b (.slice A5 n5 c5) rfl (Blk.row R5.o _)) rfl ?_;exact jK O5.o R5.o B5.o (by omega)
     case true=>
      go_wp2_with ((with_reducible refine ax ?_ 45 (.tmp 4) ?_ F3.o.V ?_ _ Tryz.underlying45 ?_ ?_ ?_);(iterate 4 rfl);exact aK _ _ _);refine (yM a b ps A n c HN.o HL.o HK.o tg w4 (F3.o.D.more F3.o.B.size)).mono ?_;rintro e w5 ⟨a5,b5,A5,n5,c5,k5,rfl,hb5,hO⟩;have R5:=Hd (F3.o.R.below hb5);have B5:=Hd (aa F3.o.B hb5);have HO:=Hd (fun h=>(hO h).imp fun zs hz=>hz.low F3.o.B.size);clear hO hb5 F3;go_wp2_with ((with_reducible refine ae ?_ 45 (.tmp 8) (.tmp 50) ?_ R5.o (tbC a5 b5 (.slice A5 n5 c5)) ?_ ?_ ?_ ?_ ?_ ?_);(iterate 4 rfl);(exact aK _ _ _);rfl;(exact aN _ _ _ _ _));refine bodyPost_ret (aQ (fn:=Tryz.f108) rfl _ _ (w.heap.size+1) a5 b5 (.slice A5 n5 c5) rfl (Blk.row R5.o _)) rfl ?_;refine ⟨a5,b5,A5,n5,c5,k5,rfl,ai B5.o (by omega) _,fun h=>?_⟩;obtain ⟨zs,hz⟩:=HO.o h;exact ⟨zs,hz.far (aA w5 (w.heap.size+1) _) (fun q e=>by injection e with e;subst e;exact hz.blk R5.o (by decide) (by decide))⟩
theorem xQ (a b a3 b3:Int) (x:ByteArray):Tryz.prog.built 117 [(0, .agg #[.int .i64 a, .int .i64 b]),(1, .string x),(2, .agg #[.int .i64 a3, .int .i64 b3]),(3, .bool true)]=some (foC ⟨a,b,x,a3,b3,true,false,⟨#[]⟩⟩):=by
 kernel_rfl
theorem Dy {w:World} {base:Nat} {e:TypeId} {size:Nat} {v:Value} {k:Nat} {xs:List Value} (h:w.ownsRow base e size v k xs) {q:Nat} {t:TypeId} {cs:Array Value} (hk:Blk w q t cs) (hne:e≠t):v.ownBlock≠some q:=fun e2=>by
 rcases h.2 with ⟨rfl,_⟩ | ⟨g',cap,cur,rfl,_,hgg,_⟩
 · cases e2
 · have e3:g' =q:=Option.some.inj e2;subst e3;rw [show w.heap[g']? =_ from hk] at hgg;injection hgg with hgg;injection hgg with _ h2;exact hne h2.symm
theorem mX {w w' :World} {base:Nat} {e:TypeId} {size:Nat} {v:Value} {k:Nat} {xs:List Value} (h:w.ownsRow base e size v k xs) {q:Nat} {t:TypeId} {cs:Array Value} (hk:Blk w q t cs) (hne:e≠t) (hg:w.grownBy w' (some q)):w'.ownsRow base e size v k xs:=
 World.ownsRow.kept h hg (by
  cases hv:v.ownBlock with
  | none=>exact .inl rfl
  | some k=>right;intro e2;exact Dy h hk hne (by rw [hv];exact e2))
abbrev rO:Array Value:=bO 0 0 0 ⟨#[]⟩ 0
structure T0 (w wr:World) (base g:Nat) (b:Int):Prop where
 only:w.grownBy wr (some g)
 src:aP wr base g b
 rb:Blk wr w.heap.size 55 rO
 h3:g < w.heap.size
 h4:base≤w.heap.size
structure T1 (w wr:World) (base g:Nat) (b:Int) (gc:Nat) (fd op nu:Int) (tx:ByteArray) (ot:Int):Prop where
 t0:T0 w wr base g b
 cb:Blk wr gc 55 (bO fd op nu tx ot)
 h2:w.heap.size < gc
section
variable {w wr w' :World} {base g gc:Nat} {b b' :Int} {fd op nu:Int} {tx:ByteArray} {ot:Int}
theorem T0.alloc (h:T0 w wr base g b) (o:Obj):T0 w (wr.alloc o) base g b:=⟨bg h.only o,h.src.alloc o,h.rb.alloc o,h.h3,h.h4⟩
theorem T0.step (h:T0 w wr base g b) (hs:aP w' base g b') (hg:wr.grownBy w' (some g)):T0 w w' base g b' :=⟨h.only.trans hg,hs,h.rb.grown hg (fun e=>by injection e with e;have:=h.h3;omega),h.h3,h.h4⟩
theorem T1.alloc (h:T1 w wr base g b gc fd op nu tx ot) (o:Obj):T1 w (wr.alloc o) base g b gc fd op nu tx ot:=⟨h.t0.alloc o,h.cb.alloc o,h.h2⟩
theorem T1.step (h:T1 w wr base g b gc fd op nu tx ot) (hs:aP w' base g b') (hg:wr.grownBy w' (some g)):T1 w w' base g b' gc fd op nu tx ot:=⟨h.t0.step hs hg,h.cb.grown hg (fun e=>by injection e with e;have:=h.h2;have:=h.t0.h3;omega),h.h2⟩
theorem T0.setCell (h:T0 w wr base g b) {p:Addr} (hp:w.heap.size < p.block) (v:Value):T0 w (wr.setCell p v) base g b:=
 ⟨aB h.only (.inr (by omega)) v,h.src.setCell (by have:=h.h4;omega) (by have:=h.h3;omega) v,h.rb.ag v (by omega),h.h3,h.h4⟩
theorem T1.set0 (h:T1 w wr base g b gc fd op nu tx ot) (x:Int):T1 w (wr.setCell ⟨gc,0,none⟩ (.int .i64 x)) base g b gc x op nu tx ot:=⟨h.t0.setCell h.h2 _,h.cb.put 0 (.int .i64 x),h.h2⟩
theorem T1.set1 (h:T1 w wr base g b gc fd op nu tx ot) (x:Int):T1 w (wr.setCell ⟨gc,1,none⟩ (.int .i64 x)) base g b gc fd x nu tx ot:=⟨h.t0.setCell h.h2 _,h.cb.put 1 (.int .i64 x),h.h2⟩
theorem T1.set2 (h:T1 w wr base g b gc fd op nu tx ot) (x:Int):T1 w (wr.setCell ⟨gc,2,none⟩ (.int .i64 x)) base g b gc fd op x tx ot:=⟨h.t0.setCell h.h2 _,h.cb.put 2 (.int .i64 x),h.h2⟩
theorem T1.Be (h:T1 w wr base g b gc fd op nu tx ot) (x:ByteArray):T1 w (wr.setCell ⟨gc,3,none⟩ (.string x)) base g b gc fd op nu x ot:=⟨h.t0.setCell h.h2 _,h.cb.put 3 (.string x),h.h2⟩
theorem T1.Bf (h:T1 w wr base g b gc fd op nu tx ot) (x:Int):T1 w (wr.setCell ⟨gc,4,none⟩ (.int .i64 x)) base g b gc fd op nu tx x:=⟨h.t0.setCell h.h2 _,h.cb.put 4 (.int .i64 x),h.h2⟩
theorem T1.lt (h:T1 w wr base g b gc fd op nu tx ot):g < wr.heap.size:=dh h.t0.src
theorem T1.qs (h:T1 w wr base g b gc fd op nu tx ot):wr.cell? ⟨gc,0,none⟩=some (.int .i64 fd)∧wr.frozen? ⟨gc,0,none⟩=false∧wr.cell? ⟨gc,1,none⟩=some (.int .i64 op)∧wr.frozen? ⟨gc,1,none⟩=false∧wr.cell? ⟨gc,2,none⟩=some (.int .i64 nu)∧wr.frozen? ⟨gc,2,none⟩=false∧wr.cell? ⟨gc,3,none⟩=some (.string tx)∧wr.frozen? ⟨gc,3,none⟩=false∧wr.cell? ⟨gc,4,none⟩=some (.int .i64 ot)∧wr.frozen? ⟨gc,4,none⟩=false:=
 ⟨h.cb.cell 0,h.cb.free 0,h.cb.cell 1,h.cb.free 1,h.cb.cell 2,h.cb.free 2,h.cb.cell 3,h.cb.free 3,h.cb.cell 4,h.cb.free 4⟩
theorem T0.rs (h:T0 w wr base g b):wr.cell? ⟨w.heap.size,0,none⟩=some (.int .i64 0)∧wr.frozen? ⟨w.heap.size,0,none⟩=false∧wr.cell? ⟨w.heap.size,1,none⟩=some (.int .i64 0)∧wr.frozen? ⟨w.heap.size,1,none⟩=false∧wr.cell? ⟨w.heap.size,2,none⟩=some (.int .i64 0)∧wr.frozen? ⟨w.heap.size,2,none⟩=false∧wr.cell? ⟨w.heap.size,3,none⟩=some (.string ⟨#[]⟩)∧wr.frozen? ⟨w.heap.size,3,none⟩=false∧wr.cell? ⟨w.heap.size,4,none⟩=some (.int .i64 0)∧wr.frozen? ⟨w.heap.size,4,none⟩=false:=
 ⟨h.rb.cell 0,h.rb.free 0,h.rb.cell 1,h.rb.free 1,h.rb.cell 2,h.rb.free 2,h.rb.cell 3,h.rb.free 3,h.rb.cell 4,h.rb.free 4⟩
end
def qN (w:World) (base g:Nat) (b:Int) (e:Ending) (w' :World):Prop:=∃ (fd op nu:Int) (tx:ByteArray) (ot:Int),e= .returned (kz fd op nu tx ot)∧(-13≤nu∧nu≤4294967295)∧tx.size≤5∧aP w' base g b∧w.grownBy w' (some g)
theorem yg {f:FuncId} {fn:Func} (_hf:Tryz.prog.funcs[f]? =some fn) (h:fn.results=#[.cell 4 55]) (tmps:Array Value) (w:World) (g:Nat) (cs:Array Value) (hp:tmps.getD 4 undef= .pointer (some ⟨g,0,none⟩)) (hg:Blk w g 55 cs) (h5:cs.size=5):
  (results fn tmps).run Tryz.prog w= .ok (.agg cs) w:=
 results_cell_row h tmps w g _ cs (0,0) _ hp hg Tryz.underlying55 rfl (by rw [h5];exact pq 0 0 0 ⟨#[]⟩ 0)
theorem yh {w wr:World} {base g gc:Nat} {b b' :Int} {fd op nu:Int} {tx:ByteArray} {ot:Int} (h:T1 w wr base g b' gc fd op nu tx ot) (hn:(-13≤nu∧nu≤4294967295)∧b' ≤b) (ht:tx.size≤5):
   qN w base g b (.returned (kz fd op nu tx ot)) (((((wr.setCell ⟨w.heap.size,0,none⟩ (.int .i64 fd)).setCell ⟨w.heap.size,1,none⟩ (.int .i64 op)).setCell ⟨w.heap.size,2,none⟩ (.int .i64 nu)).setCell ⟨w.heap.size,3,none⟩ (.string tx)).setCell ⟨w.heap.size,4,none⟩ (.int .i64 ot)):=by
 have h3:=h.t0.h3;have h4:=h.t0.h4;refine ⟨fd,op,nu,tx,ot,rfl,hn.1,ht,?_,?_⟩
 · exact (((((h.t0.src.setCell (p:=⟨w.heap.size,0,none⟩) h4 (by show w.heap.size≠g;omega) _).setCell (p:=⟨w.heap.size,1,none⟩) h4 (by show w.heap.size≠g;omega) _).setCell (p:=⟨w.heap.size,2,none⟩) h4 (by show w.heap.size≠g;omega) _).setCell (p:=⟨w.heap.size,3,none⟩) h4 (by show w.heap.size≠g;omega) _).setCell (p:=⟨w.heap.size,4,none⟩) h4 (by show w.heap.size≠g;omega) _).more hn.2
 · exact aB (aB (aB (aB (aB h.t0.only (p:=⟨w.heap.size,0,none⟩) (.inr (Nat.le_refl _)) _) (p:=⟨w.heap.size,1,none⟩) (.inr (Nat.le_refl _)) _) (p:=⟨w.heap.size,2,none⟩) (.inr (Nat.le_refl _)) _) (p:=⟨w.heap.size,3,none⟩) (.inr (Nat.le_refl _)) _) (p:=⟨w.heap.size,4,none⟩) (.inr (Nat.le_refl _)) _
theorem yj (w:World) (base g:Nat) (b l:Int) (h:aP w base g b) (hb:b≤1000000000000):
  Calls Tryz.prog 7 #[.pointer (some ⟨g,0,none⟩), .int .i64 l] w (qN w base g (b+20)):=by
 have HB:=Hd hb;have Ep:g < w.heap.size:=dh h;have hbase:base≤w.heap.size:=by have:=h.1;omega
 have st0:T0 w (w.alloc (.cells rO 55)) base g b:=⟨bg (World.grownBy.refl w (some g)) _,h.alloc _,Blk.new w _ _,Ep,hbase⟩;clear h hb;go_in;go_wp2_with fail;refine (aI _ base g b 1 8 st0.src (by have:=HB.o;omega) (by omega) (by omega) (by omega)).mono ?_;rintro e w1 ⟨f,rfl,f0,f1,hs,hg⟩;have st1:=st0.step hs hg;clear hs hg st0;go_wp2_with fail;refine (aI _ base g (b+1) 1 8 st1.src (by have:=HB.o;omega) (by omega) (by omega) (by omega)).mono ?_;rintro e w2 ⟨o,rfl,o0,o1,hs,hg⟩;have st2:=st1.step hs hg;clear hs hg st1;go_wp2_with fail;refine (bU _ base g w2.heap.size (b+1+1) 9 (-1) 4294967295 _ 3 (0,0) (st2.src.alloc _) (by have:=HB.o;omega) (heap_alloc_new w2 _) (by have:=dh st2.src;omega) rfl (by omega) (by omega) rfl).mono ?_;rintro e w3 ⟨m,rfl,m0,m1,hs,hg⟩;have st3:=(st2.alloc (.cells #[.int .i64 0, .int .i64 0, .int .i64 1, .int .i64 2, .int .i64 5, .int .i64 7, .int .i64 1000, .int .i64 4294967295, .int .i64 (-1)] 3)).step hs hg;have hw3:w.heap.size < w3.heap.size:=st3.rb.lt;clear hs hg st2;have st4:T1 w (w3.alloc (.cells (bO f o m ⟨#[]⟩ 0) 55)) base g (b+1+1+1) w3.heap.size f o m ⟨#[]⟩ 0:=⟨st3.alloc _,Blk.new w3 _ _,hw3⟩;go_wp2_with fail;generalize w3.heap.size=gc at *;refine (iP _ base g (b+1+1+1) 8 st4.t0.src (by have:=HB.o;omega) (by omega) (by omega)).mono ?_;rintro e w5 ⟨k,rfl,k0,k1,hs,hg⟩;have st5:=st4.step hs hg;clear hs hg st4 st3;go_upto_block 0 with fail;go_cut [] (fun wx=>∃ (fd op nu:Int) (tx:ByteArray) (ot b' :Int),T1 w wx base g b' gc fd op nu tx ot∧(-13≤nu∧nu≤4294967295)∧tx.size≤5∧b' ≤b+15);case first=>
  have hcs:k=0∨k=1∨(k=2∧l=3)∨(2 < k∧k < 5∧l=3)∨(1 < k∧k < 5∧l=2)∨(1 < k∧k < 6∧l=5)∨(1 < k∧¬ (k < 5∧l=3)∧¬ (k < 5∧l=2)∧¬ (k < 6∧l=5)):=by omega
  rcases hcs with rfl | rfl | ⟨rfl,rfl⟩ | ⟨c1,c2,rfl⟩ | ⟨c1,c2,rfl⟩ | ⟨c1,c2,rfl⟩ | ⟨c1,c2,c3,c4⟩
  · go_wp2_with fail;refine (aI _ base g (b+1+1+1+1) 13 14 st5.t0.src (by have:=HB.o;omega) (by omega) (by omega) (by omega)).mono ?_;rintro e w6 ⟨v6,rfl,v6a,v6b,hs,hg⟩;have st6:=st5.step hs hg;clear hs hg st5;go_wp2_with fail;refine (aI _ base g (b+1+1+1+1+1) 1 2 st6.t0.src (by have:=HB.o;omega) (by omega) (by omega) (by omega)).mono ?_;rintro e w7 ⟨v7,rfl,v7a,v7b,hs,hg⟩;have st7:=st6.step hs hg;clear hs hg st6;go_wp2_with fail;refine (iQ _ base g w7.heap.size (b+1+1+1+1+1+1) 5 5 _ 9 (0,0) (st7.t0.src.alloc _) (by have:=HB.o;omega) (heap_alloc_new w7 _) (by have:=st7.lt;omega) rfl (by omega) (by omega) rfl).mono ?_;rintro e w8 ⟨v8,rfl,v8m,hs,hg⟩;have st8:=(st7.alloc (.cells #[.string ⟨#[47,97]⟩, .string ⟨#[47,105,110,105,116]⟩, .string ⟨#[97]⟩, .string ⟨#[105,110,105,116]⟩, .string ⟨#[120,32,121]⟩] 9)).step hs hg;clear hs hg st7;obtain ⟨q0,f0,q1,f1,q2,f2,q3,f3,q4,f4⟩:=st8.qs;have stB:=((((st8.set0 v6).set1 v7).set2 0).Be v8).Bf 0;go_wp2_with fail;go_meet;exact ⟨_,_,_,_,_,_,stB,by omega,by omega,by omega⟩
  · go_wp2_with fail;refine (aI _ base g (b+1+1+1+1) 3 7 st5.t0.src (by have:=HB.o;omega) (by omega) (by omega) (by omega)).mono ?_;rintro e w9 ⟨v9,rfl,v9a,v9b,hs,hg⟩;have st9:=st5.step hs hg;clear hs hg st5;go_wp2_with fail;refine (aI _ base g (b+1+1+1+1+1) 1 2 st9.t0.src (by have:=HB.o;omega) (by omega) (by omega) (by omega)).mono ?_;rintro e w10 ⟨v10,rfl,JL,JM,hs,hg⟩;have AR:=st9.step hs hg;clear hs hg st9;go_wp2_with fail;refine (aI _ base g (b+1+1+1+1+1+1) 3 7 AR.t0.src (by have:=HB.o;omega) (by omega) (by omega) (by omega)).mono ?_;rintro e w11 ⟨v11,rfl,JN,JO,hs,hg⟩;have DI:=AR.step hs hg;clear hs hg AR;obtain ⟨q0,f0,q1,f1,q2,f2,q3,f3,q4,f4⟩:=DI.qs;have stB:=((((DI.set0 v9).set1 v10).set2 0).Be ⟨#[]⟩).Bf v11;go_wp2_with fail;go_meet;exact ⟨_,_,_,_,_,_,stB,by omega,by decide,by omega⟩
  · go_wp2_with fail;refine (aI _ base g (b+1+1+1+1) 19 20 st5.t0.src (by have:=HB.o;omega) (by omega) (by omega) (by omega)).mono ?_;rintro e w12 ⟨v12,rfl,Kj,Kk,hs,hg⟩;have Gz:=st5.step hs hg;clear hs hg st5;go_wp2_with fail;refine (aI _ base g (b+1+1+1+1+1) 1 2 Gz.t0.src (by have:=HB.o;omega) (by omega) (by omega) (by omega)).mono ?_;rintro e w13 ⟨v13,rfl,Kl,Km,hs,hg⟩;have Ex:=Gz.step hs hg;clear hs hg Gz;go_wp2_with fail;refine (bU _ base g w13.heap.size (b+1+1+1+1+1+1) 5 (3) 20 _ 3 (0,0) (Ex.t0.src.alloc _) (by have:=HB.o;omega) (heap_alloc_new w13 _) (by have:=Ex.lt;omega) rfl (by omega) (by omega) rfl).mono ?_;rintro e w14 ⟨v14,rfl,Kn,Ko,hs,hg⟩;have Iq:=(Ex.alloc (.cells #[.int .i64 3, .int .i64 4, .int .i64 5, .int .i64 19, .int .i64 20] 3)).step hs hg;clear hs hg Ex;obtain ⟨q0,f0,q1,f1,q2,f2,q3,f3,q4,f4⟩:=Iq.qs;have stB:=((((Iq.set0 v12).set1 v13).set2 0).Be ⟨#[]⟩).Bf v14;go_wp2_with fail;go_meet;exact ⟨_,_,_,_,_,_,stB,by omega,by decide,by omega⟩
  · have n0:(k == 0)=false:=(by simp;omega);have n1:(k == 1)=false:=(by simp;omega);have n2:(k == 2)=false:=(by simp;omega);go_wp2_with fail;refine (aI _ base g (b+1+1+1+1) 15 21 st5.t0.src (by have:=HB.o;omega) (by omega) (by omega) (by omega)).mono ?_;rintro e w15 ⟨v15,rfl,Kq,Kr,hs,hg⟩;have Ey:=st5.step hs hg;clear hs hg st5;go_wp2_with fail;refine (bU _ base g w15.heap.size (b+1+1+1+1+1) 8 (-13) 5 _ 3 (0,0) (Ey.t0.src.alloc _) (by have:=HB.o;omega) (heap_alloc_new w15 _) (by have:=Ey.lt;omega) rfl (by omega) (by omega) rfl).mono ?_;rintro e w16 ⟨v16,rfl,Kt,Ku,hs,hg⟩;have Ir:=(Ey.alloc (.cells #[.int .i64 0, .int .i64 0, .int .i64 1, .int .i64 1, .int .i64 2, .int .i64 5, .int .i64 (-2), .int .i64 (-13)] 3)).step hs hg;clear hs hg Ey;obtain ⟨q0,f0,q1,f1,q2,f2,q3,f3,q4,f4⟩:=Ir.qs;have stB:=(Ir.set0 v15).set2 v16;go_wp2_with fail;go_meet;exact ⟨_,_,_,_,_,_,stB,by omega,by decide,by omega⟩
  · rcases (show k=2∨2 < k by omega) with e1 | e1
    · subst e1;go_wp2_with fail;refine (aI _ base g (b+1+1+1+1) 9 12 st5.t0.src (by have:=HB.o;omega) (by omega) (by omega) (by omega)).mono ?_;rintro e w17 ⟨v17,rfl,Kv,Kw,hs,hg⟩;have Iu:=st5.step hs hg;clear hs hg st5;obtain ⟨q0,f0,q1,f1,q2,f2,q3,f3,q4,f4⟩:=Iu.qs;have stB:=Iu.set0 v17;go_wp2_with fail;go_meet;exact ⟨_,_,_,_,_,_,stB,by omega,by decide,by omega⟩
    · have n0:(k == 0)=false:=(by simp;omega);have n1:(k == 1)=false:=(by simp;omega);have n2:(k == 2)=false:=(by simp;omega);go_wp2_with fail;refine (aI _ base g (b+1+1+1+1) 9 12 st5.t0.src (by have:=HB.o;omega) (by omega) (by omega) (by omega)).mono ?_;rintro e w18 ⟨v18,rfl,Ky,Kz,hs,hg⟩;have Iw:=st5.step hs hg;clear hs hg st5;obtain ⟨q0,f0,q1,f1,q2,f2,q3,f3,q4,f4⟩:=Iw.qs;have stB:=Iw.set0 v18;go_wp2_with fail;go_meet;exact ⟨_,_,_,_,_,_,stB,by omega,by decide,by omega⟩
  · rcases (show k=2∨(2 < k∧k < 5)∨k=5 by omega) with e1 | e1 | e1
    · subst e1;go_wp2_with fail;refine (aI _ base g (b+1+1+1+1) 1 6 st5.t0.src (by have:=HB.o;omega) (by omega) (by omega) (by omega)).mono ?_;rintro e w19 ⟨v19,rfl,KA,KC,hs,hg⟩;have Ez:=st5.step hs hg;clear hs hg st5;go_wp2_with fail;refine (bU _ base g w19.heap.size (b+1+1+1+1+1) 7 (1005) 1320 _ 3 (0,0) (Ez.t0.src.alloc _) (by have:=HB.o;omega) (heap_alloc_new w19 _) (by have:=Ez.lt;omega) rfl (by omega) (by omega) rfl).mono ?_;rintro e w20 ⟨v20,rfl,KD,KE,hs,hg⟩;have Iy:=(Ez.alloc (.cells #[.int .i64 1300, .int .i64 1302, .int .i64 1307, .int .i64 1309, .int .i64 1005, .int .i64 1320, .int .i64 1306] 3)).step hs hg;clear hs hg Ez;obtain ⟨q0,f0,q1,f1,q2,f2,q3,f3,q4,f4⟩:=Iy.qs;have stB:=((((Iy.set0 22).set1 v19).set2 v20).Be ⟨#[]⟩).Bf 0;go_wp2_with fail;go_meet;exact ⟨_,_,_,_,_,_,stB,by omega,by decide,by omega⟩
    · obtain ⟨e1,e2⟩:=e1;have n0:(k == 0)=false:=(by simp;omega);have n1:(k == 1)=false:=(by simp;omega);have n2:(k == 2)=false:=(by simp;omega);go_wp2_with fail;refine (aI _ base g (b+1+1+1+1) 1 6 st5.t0.src (by have:=HB.o;omega) (by omega) (by omega) (by omega)).mono ?_;rintro e w21 ⟨v21,rfl,KF,KG,hs,hg⟩;have EA:=st5.step hs hg;clear hs hg st5;go_wp2_with fail;refine (bU _ base g w21.heap.size (b+1+1+1+1+1) 7 (1005) 1320 _ 3 (0,0) (EA.t0.src.alloc _) (by have:=HB.o;omega) (heap_alloc_new w21 _) (by have:=EA.lt;omega) rfl (by omega) (by omega) rfl).mono ?_;rintro e w22 ⟨v22,rfl,KH,KI,hs,hg⟩;have Iz:=(EA.alloc (.cells #[.int .i64 1300, .int .i64 1302, .int .i64 1307, .int .i64 1309, .int .i64 1005, .int .i64 1320, .int .i64 1306] 3)).step hs hg;clear hs hg EA;obtain ⟨q0,f0,q1,f1,q2,f2,q3,f3,q4,f4⟩:=Iz.qs;have stB:=((((Iz.set0 22).set1 v21).set2 v22).Be ⟨#[]⟩).Bf 0;go_wp2_with fail;go_meet;exact ⟨_,_,_,_,_,_,stB,by omega,by decide,by omega⟩
    · subst e1;go_wp2_with fail;refine (aI _ base g (b+1+1+1+1) 1 6 st5.t0.src (by have:=HB.o;omega) (by omega) (by omega) (by omega)).mono ?_;rintro e w23 ⟨v23,rfl,KJ,KL,hs,hg⟩;have EB:=st5.step hs hg;clear hs hg st5;go_wp2_with fail;refine (bU _ base g w23.heap.size (b+1+1+1+1+1) 7 (1005) 1320 _ 3 (0,0) (EB.t0.src.alloc _) (by have:=HB.o;omega) (heap_alloc_new w23 _) (by have:=EB.lt;omega) rfl (by omega) (by omega) rfl).mono ?_;rintro e w24 ⟨v24,rfl,KM,KN,hs,hg⟩;have IA:=(EB.alloc (.cells #[.int .i64 1300, .int .i64 1302, .int .i64 1307, .int .i64 1309, .int .i64 1005, .int .i64 1320, .int .i64 1306] 3)).step hs hg;clear hs hg EB;obtain ⟨q0,f0,q1,f1,q2,f2,q3,f3,q4,f4⟩:=IA.qs;have stB:=((((IA.set0 22).set1 v23).set2 v24).Be ⟨#[]⟩).Bf 0;go_wp2_with fail;go_meet;exact ⟨_,_,_,_,_,_,stB,by omega,by decide,by omega⟩
  · rcases (show k=2∨(2 < k∧k < 5)∨k=5∨5 < k by omega) with e1 | e1 | e1 | e1
    · subst e1;have l3:(l == 3)=false:=(by simp;omega);have l2:(l == 2)=false:=(by simp;omega);have l5:(l == 5)=false:=(by simp;omega);go_wp2_with fail;go_meet;exact ⟨_,_,_,_,_,_,st5,by omega,by decide,by omega⟩
    · obtain ⟨e1,e2⟩:=e1;have n0:(k == 0)=false:=(by simp;omega);have n1:(k == 1)=false:=(by simp;omega);have n2:(k == 2)=false:=(by simp;omega);have l3:(l == 3)=false:=(by simp;omega);have l2:(l == 2)=false:=(by simp;omega);have l5:(l == 5)=false:=(by simp;omega);go_wp2_with fail;go_meet;exact ⟨_,_,_,_,_,_,st5,by omega,by decide,by omega⟩
    · subst e1;have l5:(l == 5)=false:=(by simp;omega);go_wp2_with fail;go_meet;exact ⟨_,_,_,_,_,_,st5,by omega,by decide,by omega⟩
    · have n0:(k == 0)=false:=(by simp;omega);have n1:(k == 1)=false:=(by simp;omega);have n2:(k == 2)=false:=(by simp;omega);go_wp2_with fail;go_meet;exact ⟨_,_,_,_,_,_,st5,by omega,by decide,by omega⟩
 case rest=>
 obtain ⟨fd,op,nu,tx,ot,b',st6,hnu,htx,hb'⟩:=hcut;clear st5;go_wp2_with fail;refine (iP _ base g b' 24 st6.t0.src (by have:=HB.o;omega) (by omega) (by omega)).mono ?_;rintro e w9 ⟨v9,rfl,v9a,v9b,hs,hg⟩;have st9:=st6.step hs hg;clear hs hg st6;go_upto_if 92 with fail;go_cut [] (fun wx=>∃ (fd' op' b2:Int),T1 w wx base g b2 gc fd' op' nu tx ot∧b2≤b+19);case first=>
  by_cases h23:v9=23;case pos=>
    have b23:(v9 == 23)=true:=(by simpa using h23);go_wp2_with fail;refine (aI _ base g (b' +1) 0 24 st9.t0.src (by have:=HB.o;omega) (by omega) (by omega) (by omega)).mono ?_;rintro e w10 ⟨v10,rfl,JL,JM,hs,hg⟩;have AR:=st9.step hs hg;clear hs hg st9;go_wp2_with fail;refine (aI _ base g (b' +1+1) 0 9 AR.t0.src (by have:=HB.o;omega) (by omega) (by omega) (by omega)).mono ?_;rintro e w11 ⟨v11,rfl,JN,JO,hs,hg⟩;have DI:=AR.step hs hg;clear hs hg AR;obtain ⟨q0,f0,q1,f1,q2,f2,q3,f3,q4,f4⟩:=DI.qs;go_wp2_with fail;go_meet;exact ⟨_,_,_,(DI.set0 v10).set1 v11,by omega⟩
  case neg=>
    have b23:(v9 == 23)=false:=(by simpa using h23);go_wp2_with fail;go_meet;exact ⟨_,_,_,st9,by omega⟩
 case rest=>
 obtain ⟨fd',op',b2,stE,hb2⟩:=hcut;obtain ⟨q0,f0,q1,f1,q2,f2,q3,f3,q4,f4⟩:=stE.qs;obtain ⟨r0,s0,r1,s1,r2,s2,r3,s3,r4,s4⟩:=stE.t0.rs;go_wp2_with fail;refine bodyPost_ret (yg Tryz.func7 rfl _ _ w.heap.size _ rfl (((((stE.t0.rb.put 0 _).put 1 _).put 2 _).put 3 _).put 4 _) rfl) rfl ?_;exact yh stE ⟨hnu,by omega⟩ htx
end Go.Proofs.YtnpaoepkpdileaaGreatDoor
