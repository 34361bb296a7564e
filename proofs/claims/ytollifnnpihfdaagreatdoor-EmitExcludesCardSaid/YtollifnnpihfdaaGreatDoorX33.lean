import Derived.Test.YtollifnnpihfdaaGreatDoorX31
set_option maxRecDepth 100000
set_option maxHeartbeats 64000000
set_option linter.all false
namespace Go.Proofs.YtollifnnpihfdaaGreatDoor
open Go.RowKit
structure WkA (w:World) (base:Nat) (u:Wu) (ps gs:List ByteArray):Prop where
 P:bD w base u.P ps
 G:bD w base u.G gs
 np:u.np=ps.length
 ng:u.ng=gs.length
 lp:ps.length≤jT u.z
 hp:∀ s∈ps,s.size≤128
 hg:∀ s∈gs,s.size≤64
 ck:nE u.z u.a ps gs=0
theorem WkA.keep {w w' :World} {base:Nat} {u:Wu} {ps gs:List ByteArray} (h:WkA w base u ps gs) (hb:Below base w w'):WkA w' base u ps gs:=⟨h.P.keep hb (Nat.le_refl _),h.G.keep hb (Nat.le_refl _),h.np,h.ng,h.lp,h.hp,h.hg,h.ck⟩
theorem gB {z:Int} {a:Nat→Int} {ps gs:List ByteArray} (h:nE z a ps gs=0):ps.length=(dI z).kU∧(dI z).least≤gs.length∧gs.length≤(dI z).most∧iZ ps 128=false∧iZ gs 64=false∧(dI z).name.size≠0:=by
 unfold nE at h;split at h
 · cases h
 · split at h
   · cases h
   · split at h
     · cases h
     · split at h
       · cases h
       · rename_i h1 h2 h3 h4;simp only [not_or,Bool.not_eq_true,Decidable.not_not,Nat.not_lt] at h3 h4;exact ⟨h3.1,h3.2.1,h3.2.2,h4.1,h4.2,h1⟩
theorem oZ (ad:Addr):ad.add 0=ad:=by unfold Addr.add;rw [if_pos rfl]
def BfP (w:World) (e:Ending) (w' :World):Prop:=(∃ k:Int,e= .returned (.int .i64 k))∧Below w.heap.size w w'
theorem Cq (base gw m:Nat) (u:Wu) (v:Wv) (ds:List Dm) (ms:List Mt) (fs:List Fo) (ps gs:List ByteArray) (w:World) (h:WkS w base gw u v ds ms fs m) (ha:WkA w base u ps gs):
  Calls Tryz.prog 85 #[.pointer (some ⟨gw,0,none⟩)] w (BfP w):=by
 have HW:=Hd h;have HA:=Hd ha;have S0:=Hd (RdW.new w 48 #[.int .i64 (u.a 0), .int .i64 (u.a 1), .int .i64 (u.a 2), .int .i64 (u.a 3)]);have x20:w.cell? ⟨gw,20,none⟩=some (.int .i64 (u.a 0)):=h.X.cell 20;have x21:w.cell? ⟨gw,21,none⟩=some (.int .i64 (u.a 1)):=h.X.cell 21;have x22:w.cell? ⟨gw,22,none⟩=some (.int .i64 (u.a 2)):=h.X.cell 22;have x23:w.cell? ⟨gw,23,none⟩=some (.int .i64 (u.a 3)):=h.X.cell 23;clear h ha;go_in;go_upto_region 2 with fail;clear x20 x21 x22 x23;generalize w.alloc (.cells #[.int .i64 (u.a 0), .int .i64 (u.a 1), .int .i64 (u.a 2), .int .i64 (u.a 3)] 48)=w0 at *;have W0:=Hd (HW.o.below S0.o.b);have x19:w0.cell? ⟨gw,19,none⟩=some (.int .i64 u.z):=W0.o.X.cell 19;have y0:w0.cell? ⟨w.heap.size,0,none⟩=some (.int .i64 (u.a 0)):=S0.o.x.cell 0;have y1:w0.cell? ⟨w.heap.size,1,none⟩=some (.int .i64 (u.a 1)):=S0.o.x.cell 1;by_cases hz:u.z=6;case pos=>
  rw [hz] at x19;by_cases h1:u.a 0 < 0;case pos=>
   go_wp2_with fail;go_ret;exact ⟨⟨_,rfl⟩,S0.o.b⟩
  case neg=>
   by_cases h2:63 < u.a 0;case pos=>
    go_wp2_with fail;go_ret;exact ⟨⟨_,rfl⟩,S0.o.b⟩
   case neg=>
    cases h3:(bits BinOp.and IntKind.i64 (u.a 0) 3 == 0) with
    | true=>
     go_wp2_with fail;go_ret;exact ⟨⟨_,rfl⟩,S0.o.b⟩
    | false=>
     go_wp2_with fail;refine (Cm (u.a 1) w0).mono ?_;rintro e w2 ⟨⟨b,rfl⟩,rfl⟩;cases b with
     | false=>
      go_wp2_with fail;go_ret;exact ⟨⟨_,rfl⟩,S0.o.b⟩
     | true=>
      have x17:w0.cell? ⟨gw,17,none⟩=some (.slice u.O u.no u.co):=W0.o.X.cell 17;by_cases h4:(8:Int)≤(u.no:Int);case pos=>
       go_wp2_with fail;go_ret;exact ⟨⟨_,rfl⟩,S0.o.b⟩
      case neg=>
       go_wp2_with fail;go_ret;exact ⟨⟨_,rfl⟩,S0.o.b⟩
 case neg=>
  have p6:=(aN hz).1;clear hz;by_cases hz:u.z=9;case pos=>
   rw [hz] at x19;have hz9:=(gB HA.o.ck).2.1;rw [hz,show (dI 9).least=1 by decide+kernel] at hz9;have hg0:0 < gs.length:=(by omega);obtain ⟨ad,eG,hab,hcx⟩:=HA.o.G 0 hg0;have HS:=Hd (HA.o.hg _ (List.getElem_mem hg0));generalize gs[0]'hg0=s at *;have hcy:w0.cell? ad=some (.string s):=(S0.o.b.cell (by have:=HW.o.big;have h3:=hab;omega)).trans (oZ ad ▸ hcx);have x25:w0.cell? ⟨gw,25,none⟩=some (.slice (some ad) u.ng u.cg):=(by rw [← eG];exact W0.o.X.cell 25);have g1:(0:Int) < (u.ng:Int):=(by rw [HA.o.ng];omega);clear hcx eG hab hz9;cases he:s.toList.isEmpty with
   | true=>
    go_wp2_with fail;go_ret;exact ⟨⟨_,rfl⟩,S0.o.b⟩
   | false=>
    go_wp2_with fail;go_loopw [4] (fun i wr=>∃ k:Nat,k≤s.size∧i= .int .i64 k∧wr=w0) (fun i _=>s.size - (intOf i).toNat);case atStart=>exact ⟨0,Nat.zero_le _,rfl,rfl⟩
    case round=>
     obtain ⟨k,hk,rfl,rfl⟩:=hrel;have WK:=Hd (bg hk (by have:=HS.o;omega));by_cases hlt:k < s.size;case neg=>
      have k1:¬ (k:Int) < (s.size:Int):=(by omega);go_wp2_with fail;go_ret;exact ⟨⟨_,rfl⟩,S0.o.b⟩
     case pos=>
      have k1:(k:Int) < (s.size:Int):=(by omega);have k2:(0:Int)≤(k:Int):=(by omega);cases hz:((s[k].toNat:Int) == 0);case true=>
       go_wp2_with fail;go_ret;exact ⟨⟨_,rfl⟩,S0.o.b⟩
      case false=>
       obtain ⟨wk1,wk2⟩:=WK.o;go_wp2_with fail;clear wk1 wk2;go_roundw;case rel=>exact ⟨k+1,hlt,rfl,by first | rfl | trivial⟩
       case measure=>exact aL hlt _ rfl
  case neg=>
   have p9:=(aN hz).1;clear hz;by_cases hz:u.z=11;case pos=>
    rw [hz] at x19;go_wp2_with fail;refine (Cm (u.a 0) w0).mono ?_;rintro e w2 ⟨⟨b,rfl⟩,rfl⟩;cases b with
    | false=>
     go_wp2_with fail;go_ret;exact ⟨⟨_,rfl⟩,S0.o.b⟩
    | true=>
     go_wp2_with fail;go_ret;exact ⟨⟨_,rfl⟩,S0.o.b⟩
   case neg=>
    have p11:=(aN hz).1;clear hz;by_cases hz:u.z=14;case pos=>
     rw [hz] at x19;go_wp2_with fail;refine (Cm (u.a 0) w0).mono ?_;rintro e w2 ⟨⟨b,rfl⟩,rfl⟩;cases b with
     | false=>
      go_wp2_with fail;go_ret;exact ⟨⟨_,rfl⟩,S0.o.b⟩
     | true=>
      go_wp2_with fail;go_ret;exact ⟨⟨_,rfl⟩,S0.o.b⟩
    case neg=>
     have p14:=(aN hz).1;clear hz;by_cases hz:u.z=15;case pos=>
      rw [hz] at x19;by_cases h1:u.a 0 < 0;case pos=>
       go_wp2_with fail;go_ret;exact ⟨⟨_,rfl⟩,S0.o.b⟩
      case neg=>
       by_cases h2:4294967295 < u.a 0;case pos=>
        go_wp2_with fail;go_ret;exact ⟨⟨_,rfl⟩,S0.o.b⟩
       case neg=>
        by_cases h3:u.a 1 < 0;case pos=>
         go_wp2_with fail;go_ret;exact ⟨⟨_,rfl⟩,S0.o.b⟩
        case neg=>
         by_cases h4:4294967295 < u.a 1;case pos=>
          go_wp2_with fail;go_ret;exact ⟨⟨_,rfl⟩,S0.o.b⟩
         case neg=>
          go_wp2_with fail;go_ret;exact ⟨⟨_,rfl⟩,S0.o.b⟩
     case neg=>
      have p15:=(aN hz).1;clear hz;by_cases hz:u.z=17;case pos=>
       rw [hz] at x19;have x8:w0.cell? ⟨gw,8,none⟩=some (.int .i64 u.p.eu):=W0.o.X.cell 8;cases h1:(u.p.eu == 0) with
       | true=>
        go_wp2_with fail;go_ret;exact ⟨⟨_,rfl⟩,S0.o.b⟩
       | false=>
        go_wp2_with fail;go_ret;exact ⟨⟨_,rfl⟩,S0.o.b⟩
      case neg=>
       have p17:=(aN hz).1;clear hz;by_cases hz:u.z=21;case pos=>
        rw [hz] at x19;by_cases h1:u.a 0 < 0;case pos=>
         go_wp2_with fail;go_ret;exact ⟨⟨_,rfl⟩,S0.o.b⟩
        case neg=>
         go_wp2_with fail;go_ret;exact ⟨⟨_,rfl⟩,S0.o.b⟩
       case neg=>
        have p21:=(aN hz).1;clear hz;go_wp2_with fail;go_ret;exact ⟨⟨_,rfl⟩,S0.o.b⟩
theorem TcF.J7 {w wr:World} {go gx i:Nat} {a b:Int} {v V:Value} {ys ps:List Pm} {A:Option Addr} {cs:Array Value} (h:TcF w wr go a b v ys V A ps) (hX:Blk wr gx 47 cs) (hq:v.ownBlock≠some gx) (hgo:go < gx) (u:Value):TcF w (wr.setCell ⟨gx,i,none⟩ u) go a b v ys V A ps:=by
 have hh:=h.h;exact ⟨h.O.far (av wr gx i u) (fun q e=>by injection e with e;subst e;exact ⟨hq,fun x hx=>az (h.O.op x hx).1 hX (by decide)⟩),h.G.af _ (by show go≠gx;omega),h.R.af _ (by show w.heap.size+1≠gx;omega),h.V.af _ (by show w.heap.size≠gx;omega),h.D.keep ((Below.refl _ wr).setCell (p:=⟨gx,i,none⟩) (by show w.heap.size≤gx;omega) u) (Nat.le_refl _),h.B.setCell (p:=⟨gx,i,none⟩) (by show w.heap.size≤gx;omega) u,hh⟩
theorem Af (a b:Int) (ps:List Pm) (A:Option Addr) (n c:Nat) (hn:n=ps.length) (hl:n≤16) (hk:∀ x∈ps,x.Ok) (pid:Int) (w:World) (h:jH w w.heap.size A ps):
   Calls Tryz.prog 209 #[.agg (tbC a b (.slice A n c)), .int .i64 pid] w (TbP w):=by
 have HN:=Hd hn;have HL:=Hd hl;have HK:=Hd hk;have hb0:=aT w (tbC a b (.slice A n c)) (tbC 0 0 (.slice none 0 0)) 34 34;have h2:=Blk.new (w.alloc (.cells (tbC a b (.slice A n c)) 34)) (tbC 0 0 (.slice none 0 0)) 34;simp only [World.size_alloc] at h2;have B0:=Hd hb0;have V0:=Hd ((Blk.new w (tbC a b (.slice A n c)) 34).alloc (.cells (tbC 0 0 (.slice none 0 0)) 34));have R0:=Hd h2;have D0:=Hd (h.keep hb0 (Nat.le_refl _));clear h hn hl hk hb0 h2;go_in;go_upto_region 1 with fail;generalize ((w.alloc (.cells (tbC a b (.slice A n c)) 34)).alloc (.cells (tbC 0 0 (.slice none 0 0)) 34))=w0 at *;go_wp2_with ((with_reducible refine ay ?_ 34 (.tmp 2) ?_ V0.o ?_ _ Tryz.underlying34 ?_ ?_ ?_);(iterate 4 rfl);exact aK _ _ _);refine (jP a b pid ps A n c HN.o w0 (D0.o.more B0.o.size)).mono ?_;rintro e w1 ⟨hb1,rfl | ⟨y,hy,A2,c2,rfl,ho⟩⟩
 · have hba:=(Below.refl w1.heap.size w1).alloc (Nat.le_refl _) (.cells (psC zPc (.slice none 0 0)) 47);have hbb:=aa hb1 hba;have R1:=Hd (R0.o.below hbb);have V1:=Hd (V0.o.below hbb);have B1:=Hd (aa B0.o hbb);have D1:=Hd (D0.o.keep hbb B0.o.size);clear hba hbb hb1 V0 R0 B0 D0;go_wp2_with ((with_reducible refine ae ?_ 34 (.tmp 4) (.tmp 19) ?_ R1.o (tbC 0 0 (.slice none 0 0)) ?_ ?_ ?_ ?_ ?_ ?_);(iterate 4 rfl);(exact aK _ _ _);rfl;(exact aP _ _ _ _ _));refine bodyPost_ret (aS (fn:=Tryz.f209) rfl _ _ (w.heap.size+1) 0 0 (.slice none 0 0) rfl (Blk.row R1.o _)) rfl ?_;exact dw R1.o B1.o (by omega) (by decide)
 · have hba:=(Below.refl w1.heap.size w1).alloc (Nat.le_refl _) (.cells (psC y.p (.slice A2 y.ds.length c2)) 47);have hbb:=aa hb1 hba;have R1:=Hd (R0.o.below hbb);have V1:=Hd (V0.o.below hbb);have B1:=Hd (aa B0.o hbb);have D1:=Hd (D0.o.keep hbb B0.o.size);clear hba hbb hb1 V0 R0 B0 D0 ho hy;go_upto_region 4 with fail;generalize w1.alloc (.cells (psC y.p (.slice A2 y.ds.length c2)) 47)=w2 at *
   skip
   by_cases h1:pid=1;case pos=>
    subst h1;go_wp2_with ((with_reducible refine ae ?_ 34 (.tmp 4) (.tmp 22) ?_ R1.o (tbC 0 0 (.slice none 0 0)) ?_ ?_ ?_ ?_ ?_ ?_);(iterate 4 rfl);(exact aK _ _ _);rfl;(exact aP _ _ _ _ _));refine bodyPost_ret (aS (fn:=Tryz.f209) rfl _ _ (w.heap.size+1) 0 0 (.slice none 0 0) rfl (Blk.row R1.o _)) rfl ?_;exact dw R1.o B1.o (by omega) (by decide)
   have p1:=(aN h1).1;clear h1;have v0:=V1.o.cell 0;have v1:=V1.o.cell 1;have hba:=(Below.refl w2.heap.size w2).alloc (Nat.le_refl _) (.cells (tbC a b (.slice none 0 0)) 34);have F1:=Hd (show TcF w (w2.alloc (.cells (tbC a b (.slice none 0 0)) 34)) w2.heap.size a b (.slice none 0 0) [] (.slice A n c) A ps from ⟨aJ.nil _ _,Blk.new w2 _ _,R1.o.below hba,V1.o.below hba,D1.o.keep hba B1.o.size,aa B1.o hba,R1.o.lt⟩);go_upto_region 7 with fail;clear v0 v1 p1 hba V1 R1 B1 D1;generalize w2.alloc (.cells (tbC a b (.slice none 0 0)) 34)=w4 at *;generalize w2.heap.size=go at *;go_wp2_with fail;go_loopw [9,10] (fun i _p wr=>∃ (k:Nat) (A0:Option Addr) (n0 c0:Nat) (ys:List Pm),k≤ps.length∧i= .int .i64 k∧Hid (ys.length≤k)∧Hid (TcF w wr go a b (.slice A0 n0 c0) ys (.slice A n c) A ps)) (fun i _ _=>ps.length - (intOf i).toNat);case atStart=>exact ⟨0,none,0,0, [],Nat.zero_le _,rfl,Hd (Nat.le_refl _),F1⟩
   case round=>
    clear F1;obtain ⟨k,A0,n0,c0,ys,hk,rfl,HY,HF⟩:=hrel;have v2:=HF.o.V.cell 2;have hn:=HN.o;by_cases hlt:k < ps.length;case pos=>
     have k1:(k:Int) < (n:Int):=(by omega);have k2:(0:Int)≤(k:Int):=(by omega);have WK:=Hd (bg hk (by have:=HL.o;omega));have HKL:=Hd (show k+1≤16 by have:=HL.o;omega);clear hn;obtain ⟨am,rfl,hab,hcx⟩:=HF.o.D.at_ k hlt;have HXA:=Hd (HF.o.D.opens _ (List.getElem_mem hlt)).1;have HXK:=Hd (HK.o _ (List.getElem_mem hlt));generalize ps[k]=x at *;obtain ⟨⟨m0,m1,m2,m3,m4,m5,m6⟩,m7,m8,m9,m10,m11,m12,m13⟩:=dU (a:=am.add (k * 14)) hcx;clear hcx;go_wp2_with fail;clear m0 m1 m2 m3 m4 m5 m6 m7 m8 m9 m10 m11 m12 m13 v2 k1;refine (qK x.p x.ds x.A x.ds.length x.c rfl (by have:=HXK.o.1;omega) wr (HXA.o.more HF.o.B.size)).mono ?_;rintro e w3 ⟨A3,c3,rfl,ho3,hb3⟩;have hba:=(Below.refl w3.heap.size w3).alloc (Nat.le_refl _) (.cells (psC x.p (.slice A3 x.ds.length c3)) 47);have F3:=Hd ((HF.o.below hb3).below hba);have O3:=Hd ((ho3.low HF.o.B.size).below hba);have X3:=Hd (Blk.new w3 (psC x.p (.slice A3 x.ds.length c3)) 47);have HQ:=Hd (show (Value.slice A0 n0 c0).ownBlock≠some w3.heap.size from fun e=>by have:=(HF.o.below hb3).O.own.lt _ e;omega);have hgo:=(HF.o.below hb3).G.lt;clear hba hb3 ho3 HF HXA;go_upto_region 11 with fail;generalize w3.alloc (.cells (psC x.p (.slice A3 x.ds.length c3)) 47)=w5 at *;generalize w3.heap.size=gx at *;have x1:=X3.o.cell 1;have g1:=X3.o.free 1;go_upto_if 44 with fail;go_cut [] (fun wx=>∃ p' :Pc,(p'.co.size≤640∧p'.ex.size≤640)∧TcF w wx go a b (.slice A0 n0 c0) ys (.slice (some am) n c) (some am) ps∧ax EDs wx w.heap.size (.slice A3 x.ds.length c3) x.ds∧Blk wx gx 47 (psC p' (.slice A3 x.ds.length c3)));case first=>
      by_cases hpp:x.p.pp=pid;case pos=>
       have q1:=(bH hpp).1;have F5:=F3.o.J7 (i:=1) X3.o HQ.o hgo (.int .i64 1);have O5:=O3.o.bY (g:=gx) (i:=1) (az O3.o X3.o (by decide)) (.int .i64 1);have X5:Blk _ gx 47 (psC { x.p with pp:=1 } (.slice A3 x.ds.length c3)):=X3.o.put 1 (.int .i64 1);go_wp2_with fail;go_meet;exact ⟨{ x.p with pp:=1 },HXK.o.2,F5,O5,X5⟩
      case neg=>
       have q1:=(aN hpp).1;go_wp2_with fail;go_meet;exact ⟨x.p,HXK.o.2,F3.o,O3.o,X3.o⟩
     case rest=>
     obtain ⟨p',hz,hf,ho,hx⟩:=hcut;clear x1 g1 F3 O3 X3;generalize wc=w6 at *;have F6:=Hd hf;have O6:=Hd ho;have X6:=Hd hx;have HZ:=Hd hz;clear hf ho hx hz;have x0:=X6.o.cell 0;by_cases Cv:p'.pid=pid;case pos=>
      have q1:=(bH Cv).2;obtain ⟨wk1,wk2⟩:=WK.o;go_wp2_with fail;clear wk1 wk2 q1 x0;go_roundw;case rel=>exact ⟨k+1,A0,n0,c0,ys,hlt,rfl,Hd (by have:=HY.o;omega),F6⟩
      case measure=>exact aL hlt _ rfl
     case neg=>
      have q1:=(aN Cv).2;go_upto_region 14 with fail;clear q1 x0;have hba:=(Below.refl w6.heap.size w6).alloc (Nat.le_refl _) (.cells (psC p' (.slice A3 x.ds.length c3)) 47);have F7:=Hd (F6.o.below hba);have O7:=Hd (show ax EDs (w6.alloc (.cells (psC p' (.slice A3 x.ds.length c3)) 47)) w.heap.size (⟨p',x.ds,A3,c3⟩:Pm).sl x.ds from O6.o.below hba);have RW:=Hd (aI EPc w6 (psC p' (.slice A3 x.ds.length c3)) 47 (⟨p',x.ds,A3,c3⟩:Pm) rfl (Nat.lt_succ_self w6.heap.size));have g2:=F6.o.G.cell 2;clear hba F6 O6;go_wp2_with (first | ((with_reducible refine ay ?_ 47 (.tmp 10) ?_ X6.o ?_ _ Tryz.underlying47 ?_ ?_ ?_);(iterate 4 rfl);exact gQ _ _) | (at_builtin;refine aj EPc rfl (.tmp 51) (.tmp 53) rfl w.heap.size (.slice A0 n0 c0) ys rfl F7.o.O.own (w6.heap.size+1) (some ⟨w6.heap.size,0,none⟩) 1 1 [(⟨p',x.ds,A3,c3⟩:Pm)] rfl rfl RW.o (by have:=HY.o;have:=HKL.o;simp;omega) F7.o.B.size ?_));intro v8 w8 ho8 hg8 um;clear g2;obtain ⟨A9,c9,e9,_⟩:=ho8.at;rw [show (ys ++ [(⟨p',x.ds,A3,c3⟩:Pm)]).length=ys.length+1 by simp] at e9;subst e9;have HG8:=F7.o.G.grown hg8 (az F7.o.O.own F7.o.G (by decide));have F9:=Hd (F7.o.app (x:=(⟨p',x.ds,A3,c3⟩:Pm)) ⟨O7.o,HXK.o.1,HZ.o⟩ ho8 hg8 (by have:=HY.o;have:=HKL.o;omega));have HY9:=Hd (show (ys ++ [(⟨p',x.ds,A3,c3⟩:Pm)]).length≤k+1 by have:=HY.o;rw [List.length_append];show ys.length+1≤_;omega);have c2:=HG8.cell 2;have f2:=HG8.free 2;clear ho8 hg8 um RW O7 F7 X6 HG8;generalize ys.length+1=yl at *;obtain ⟨wk1,wk2⟩:=WK.o;go_wp2_with fail;clear wk1 wk2 c2 f2;go_roundw;case rel=>exact ⟨k+1,A9,yl,c9,_,hlt,rfl,HY9,F9⟩
      case measure=>exact aL hlt _ rfl
    case neg=>
     have k1:¬ (k:Int) < (n:Int):=(by omega);clear hn;go_wp2_with (first | ((with_reducible refine ay ?_ 34 (.tmp 8) ?_ HF.o.G ?_ _ Tryz.underlying34 ?_ ?_ ?_);(iterate 4 rfl);exact aK _ _ _) | ((with_reducible refine ae ?_ 34 (.tmp 4) (.tmp 56) ?_ HF.o.R (tbC a b (.slice A0 n0 c0)) ?_ ?_ ?_ ?_ ?_ ?_);(iterate 4 rfl);(exact aK _ _ _);rfl;(exact aP _ _ _ _ _)));refine bodyPost_ret (aS (fn:=Tryz.f209) rfl _ _ (w.heap.size+1) a b (.slice A0 n0 c0) rfl (Blk.row HF.o.R _)) rfl ?_;exact jJ HF.o.O HF.o.R HF.o.B (by omega)
theorem Ga (a b:Int) (ps:List Pm) (A:Option Addr) (n c:Nat) (hn:n=ps.length) (hl:n≤16) (hk:∀ x∈ps,x.Ok) (pid tg:Int) (en:Bool) (w:World) (h:jH w w.heap.size A ps):
   Calls Tryz.prog 215 #[.agg (tbC a b (.slice A n c)), .int .i64 pid, .int .i64 tg, .bool en] w (TbP w):=by
 have HN:=Hd hn;have HL:=Hd hl;have HK:=Hd hk;have hb0:=aT w (tbC a b (.slice A n c)) (tbC 0 0 (.slice none 0 0)) 34 34;have h2:=Blk.new (w.alloc (.cells (tbC a b (.slice A n c)) 34)) (tbC 0 0 (.slice none 0 0)) 34;simp only [World.size_alloc] at h2;have B0:=Hd hb0;have V0:=Hd ((Blk.new w (tbC a b (.slice A n c)) 34).alloc (.cells (tbC 0 0 (.slice none 0 0)) 34));have R0:=Hd h2;have D0:=Hd (h.keep hb0 (Nat.le_refl _));clear h hn hl hk hb0 h2;go_in;go_upto_region 1 with fail;generalize ((w.alloc (.cells (tbC a b (.slice A n c)) 34)).alloc (.cells (tbC 0 0 (.slice none 0 0)) 34))=w0 at *;go_wp2_with ((with_reducible refine ay ?_ 34 (.tmp 4) ?_ V0.o ?_ _ Tryz.underlying34 ?_ ?_ ?_);(iterate 4 rfl);exact aK _ _ _);refine (jP a b pid ps A n c HN.o w0 (D0.o.more B0.o.size)).mono ?_;rintro e w1 ⟨hb1,rfl | ⟨y,hy,A2,c2,rfl,ho⟩⟩
 · have hba:=(Below.refl w1.heap.size w1).alloc (Nat.le_refl _) (.cells (psC zPc (.slice none 0 0)) 47);have hbb:=aa hb1 hba;have R1:=Hd (R0.o.below hbb);have B1:=Hd (aa B0.o hbb);clear hba hbb hb1 V0 R0 B0 D0;go_wp2_with ((with_reducible refine ae ?_ 34 (.tmp 8) (.tmp 21) ?_ R1.o (tbC 0 0 (.slice none 0 0)) ?_ ?_ ?_ ?_ ?_ ?_);(iterate 4 rfl);(exact aK _ _ _);rfl;(exact aP _ _ _ _ _));refine bodyPost_ret (aS (fn:=Tryz.f215) rfl _ _ (w.heap.size+1) 0 0 (.slice none 0 0) rfl (Blk.row R1.o _)) rfl ?_;exact dw R1.o B1.o (by omega) (by decide)
 · have hba:=(Below.refl w1.heap.size w1).alloc (Nat.le_refl _) (.cells (psC y.p (.slice A2 y.ds.length c2)) 47);have hbb:=aa hb1 hba;have hr1:=(R0.o.below hb1).lt;have F1:=Hd (show GtF w (w1.alloc (.cells (psC y.p (.slice A2 y.ds.length c2)) 47)) (w.heap.size+1) w1.heap.size a b A n c ps ⟨y.p,y.ds,A2,c2⟩ from ⟨V0.o.below hbb,R0.o.below hbb,Blk.new w1 _ _,(ho.low B0.o.size).below hba,D0.o.keep hbb B0.o.size,aa B0.o hbb,⟨by omega,hr1⟩,HK.o y hy⟩);clear hba hbb hb1 V0 R0 B0 D0 ho hr1 hy;go_upto_region 4 with fail;generalize w1.alloc (.cells (psC y.p (.slice A2 y.ds.length c2)) 47)=w2 at *;generalize w1.heap.size=gp at *;go_wp2_with ((with_reducible refine ay ?_ 34 (.tmp 4) ?_ F1.o.V ?_ _ Tryz.underlying34 ?_ ?_ ?_);(iterate 4 rfl);exact aK _ _ _);refine (jP a b tg ps A n c HN.o w2 (F1.o.D.more F1.o.B.size)).mono ?_;rintro e w3 ⟨hb3,rfl | ⟨z,hz,A3,c3,rfl,ho3⟩⟩
   · have hba:=(Below.refl w3.heap.size w3).alloc (Nat.le_refl _) (.cells (psC zPc (.slice none 0 0)) 47);have F3:=Hd (F1.o.below (aa hb3 hba));clear hba hb3 F1;go_wp2_with ((with_reducible refine ae ?_ 34 (.tmp 8) (.tmp 30) ?_ F3.o.R (tbC 0 0 (.slice none 0 0)) ?_ ?_ ?_ ?_ ?_ ?_);(iterate 4 rfl);(exact aK _ _ _);rfl;(exact aP _ _ _ _ _));refine bodyPost_ret (aS (fn:=Tryz.f215) rfl _ _ (w.heap.size+1) 0 0 (.slice none 0 0) rfl (Blk.row F3.o.R _)) rfl ?_;exact dw F3.o.R F3.o.B (by omega) (by decide)
   · have hba:=(Below.refl w3.heap.size w3).alloc (Nat.le_refl _) (.cells (psC z.p (.slice A3 z.ds.length c3)) 47);have F3:=Hd (F1.o.below (aa hb3 hba));have Q3:=Hd (Blk.new w3 (psC z.p (.slice A3 z.ds.length c3)) 47);clear hba hb3 F1 ho3 hz;go_upto_region 7 with fail;generalize w3.alloc (.cells (psC z.p (.slice A3 z.ds.length c3)) 47)=w4 at *;generalize w3.heap.size=gq at *;have x3:=F3.o.X.cell 3;have q2:=Q3.o.cell 2;go_cut [44] (fun u wx=>(∃ bb:Bool,u= .bool bb)∧w4=wx);case first=>
      by_cases h1:tg=1;case pos=>
       have e1:=(bH h1).1;clear h1;go_wp2_with fail;go_meet;exact ⟨⟨_,rfl⟩,rfl⟩
      case neg=>
       have e1:=(aN h1).1;clear h1;by_cases h2:y.p.eu=0;case pos=>
        have e2:=(bH h2).2;clear h2;go_wp2_with fail;go_meet;exact ⟨⟨_,rfl⟩,rfl⟩
       case neg=>
        have e2:=(aN h2).2;clear h2;go_wp2_with fail;go_meet;exact ⟨⟨_,rfl⟩,rfl⟩
     case rest=>
     obtain ⟨⟨bb,rfl⟩,rfl⟩:=hcut;clear x3 q2 Q3;cases bb;case true=>
      go_wp2_with ((with_reducible refine ae ?_ 34 (.tmp 8) (.tmp 45) ?_ F3.o.R (tbC 0 0 (.slice none 0 0)) ?_ ?_ ?_ ?_ ?_ ?_);(iterate 4 rfl);(exact aK _ _ _);rfl;(exact aP _ _ _ _ _));refine bodyPost_ret (aS (fn:=Tryz.f215) rfl _ _ (w.heap.size+1) 0 0 (.slice none 0 0) rfl (Blk.row F3.o.R _)) rfl ?_;exact dw F3.o.R F3.o.B (by omega) (by decide)
     cases en;case false=>
      go_wp2_with ((with_reducible refine ay ?_ 34 (.tmp 4) ?_ F3.o.V ?_ _ Tryz.underlying34 ?_ ?_ ?_);(iterate 4 rfl);exact aK _ _ _);refine (qQ a b ps A n c HN.o HL.o HK.o w4 (F3.o.D.more F3.o.B.size)).mono ?_;rintro e w5 ⟨A5,n5,c5,zs,rfl,hO,hb5,_⟩;have R5:=Hd (F3.o.R.below hb5);have B5:=Hd (aa F3.o.B hb5);have O5:=Hd (hO.low F3.o.B.size);clear hO hb5 F3;go_wp2_with ((with_reducible refine ae ?_ 34 (.tmp 8) (.tmp 53) ?_ R5.o (tbC a b (.slice A5 n5 c5)) ?_ ?_ ?_ ?_ ?_ ?_);(iterate 4 rfl);(exact aK _ _ _);rfl;(exact aP _ _ _ _ _));refine bodyPost_ret (aS (fn:=Tryz.f215) rfl _ _ (w.heap.size+1) a b (.slice A5 n5 c5) rfl (Blk.row R5.o _)) rfl ?_;exact jJ O5.o R5.o B5.o (by omega)
     case true=>
      go_wp2_with ((with_reducible refine ay ?_ 34 (.tmp 4) ?_ F3.o.V ?_ _ Tryz.underlying34 ?_ ?_ ?_);(iterate 4 rfl);exact aK _ _ _);refine (Af a b ps A n c HN.o HL.o HK.o tg w4 (F3.o.D.more F3.o.B.size)).mono ?_;rintro e w5 ⟨a5,b5,A5,n5,c5,k5,rfl,hb5,hO⟩;have R5:=Hd (F3.o.R.below hb5);have B5:=Hd (aa F3.o.B hb5);have HO:=Hd (fun h=>(hO h).imp fun zs hz=>hz.low F3.o.B.size);clear hO hb5 F3;go_wp2_with ((with_reducible refine ae ?_ 34 (.tmp 8) (.tmp 50) ?_ R5.o (tbC a5 b5 (.slice A5 n5 c5)) ?_ ?_ ?_ ?_ ?_ ?_);(iterate 4 rfl);(exact aK _ _ _);rfl;(exact aP _ _ _ _ _));refine bodyPost_ret (aS (fn:=Tryz.f215) rfl _ _ (w.heap.size+1) a5 b5 (.slice A5 n5 c5) rfl (Blk.row R5.o _)) rfl ?_;refine ⟨a5,b5,A5,n5,c5,k5,rfl,ai B5.o (by omega) _,fun h=>?_⟩;obtain ⟨zs,hz⟩:=HO.o h;exact ⟨zs,hz.far (aA w5 (w.heap.size+1) _) (fun q e=>by injection e with e;subst e;exact hz.blk R5.o (by decide) (by decide))⟩
structure Wa where
 kd:Int
 dd:Int
 di:Int
 nm:ByteArray
 fd:Int
 fi:Int
section
variable {w wr w' :World} {A Am:Option Addr} {n c nm cm:Nat} {ds:List Dm} {ms:List Mt}
end
def Kh:Prop:=∀ (d i:Int) (p:ByteArray),p.size≤100000→∀ (fw:Bool) (ds:List Dm) (A:Option Addr) (n c:Nat),n=ds.length→∀ (ms:List Mt) (Am:Option Addr) (nm cm:Nat),nm=ms.length→nm≤1000→SOk (ds.map Dm.dv) ms→∀ (w:World),bZ w w.heap.size A ds→AtE EMt w w.heap.size Am ms→
 Calls Tryz.prog 135 #[.agg #[slV A n c,slV Am nm cm],flV d i, .string p, .bool fw] w (FoP w)
structure Sy where
 A:Option Addr
 n:Nat
 c:Nat
 Am:Option Addr
 nm:Nat
 cm:Nat
 ta:Int
 tb:Int
 At:Option Addr
 nt:Nat
 ct:Nat
abbrev syC (s:Sy):Array Value:=#[.slice s.A s.n s.c, .slice s.Am s.nm s.cm, .int .i64 s.ta, .int .i64 s.tb, .slice s.At s.nt s.ct]
abbrev syZ:Array Value:=#[.slice none 0 0, .slice none 0 0, .int .i64 0, .int .i64 0, .slice none 0 0]
theorem gH (s:Sy):(Tryz.prog.info? 36).map (·.size)=some (syC s).size:=by show _=some 5;kernel_rfl
theorem eY (s:Sy):(syC s).all (·.oneCell')=true:=by simp [Value.oneCell']
structure eT (w:World) (base:Nat) (s:Sy) (ds:List Dm) (ms:List Mt) (ps:List Pm):Prop where
 fo:aC w base (.slice s.A s.n s.c) ds
 mo:ax EMt w base (.slice s.Am s.nm s.cm) ms
 so:SOk (ds.map Dm.dv) ms
 tb:aJ w base (.slice s.At s.nt s.ct) ps
def SyO (w:World) (base:Nat) (s:Sy):Prop:=∃ ds ms ps,eT w base s ds ms ps
section
variable {w w' :World} {base:Nat} {s:Sy} {ds:List Dm} {ms:List Mt} {ps:List Pm}
theorem eT.below (h:eT w base s ds ms ps) (hb:Below w.heap.size w w'):eT w' base s ds ms ps:=⟨h.fo.below hb,h.mo.below hb,h.so,h.tb.below hb⟩
theorem SyO.below (h:SyO w base s) (hb:Below w.heap.size w w'):SyO w' base s:=by
 obtain ⟨ds,ms,ps,h⟩:=h;exact ⟨ds,ms,ps,h.below hb⟩
theorem eT.low (h:eT w base s ds ms ps) {b:Nat} (hb:b≤base):eT w b s ds ms ps:=⟨h.fo.low hb,h.mo.low hb,h.so,h.tb.low hb⟩
theorem SyO.low (h:SyO w base s) {b:Nat} (hb:b≤base):SyO w b s:=by
 obtain ⟨ds,ms,ps,h⟩:=h;exact ⟨ds,ms,ps,h.low hb⟩
theorem eT.few (h:eT w base s ds ms ps):s.nm=ms.length∧s.nm≤2∧s.n=ds.length:=by
 have h1:=(cK h.mo).1;have h2:=h.so.2.few h.so.1.2.1;exact ⟨h1,by omega,h.fo.sJ.2⟩
theorem eT.files (h:eT w base s ds ms ps):bZ w w.heap.size s.A ds:=h.fo.sJ.1
theorem eT.aU (h:eT w base s ds ms ps):AtE EMt w w.heap.size s.Am ms:=aR h.mo
theorem eT.nt (h:eT w base s ds ms ps):s.nt=ps.length∧s.nt≤16:=by
 have h1:=h.tb.at'.1;have h2:=h.tb.few;exact ⟨h1,by omega⟩
theorem eT.far (h:eT w base s ds ms ps) {k:Nat} {t:TypeId} {cs:Array Value} (hg:w.grownBy w' (some k)) (hk:Blk w k t cs) (ht:t ∉ oL):eT w' base s ds ms ps:=
 ⟨h.fo.kJ hk hg (iI (by decide) ht) (iI (by decide) ht) (iI (by decide) ht),h.mo.far hg (fun q e r=>by injection r with r;subst r;exact az h.mo hk (iI (by decide) ht) e),h.so,h.tb.far hg (fun q e=>by injection e with e;subst e;exact h.tb.blk hk (iI (by decide) ht) (iI (by decide) ht))⟩
theorem SyO.far (h:SyO w base s) {k:Nat} {t:TypeId} {cs:Array Value} (hg:w.grownBy w' (some k)) (hk:Blk w k t cs) (ht:t ∉ oL):SyO w' base s:=by
 obtain ⟨ds,ms,ps,h⟩:=h;exact ⟨ds,ms,ps,h.far hg hk ht⟩
theorem SyO.src (h:SyO w base s) {g:Nat} (hl:g < base) (hg:w.grownBy w' (some g)):SyO w' base s:=by
 obtain ⟨ds,ms,ps,h⟩:=h;exact ⟨ds,ms,ps,h.fo.far hg (fun q e=>by injection e with e;subst e;exact h.fo.old hl),h.mo.far hg (fun q e r=>by injection r with r;have:=h.mo.ge q e;omega),h.so,h.tb.only hg hl⟩
end
theorem Aj {fn:Func} {i:Nat} (h:fn.results=#[.cell i 36]) (tmps:Array Value) (w:World) (g:Nat) (s:Sy) (hp:tmps.getD i undef= .pointer (some ⟨g,0,none⟩)) (hg:Blk w g 36 (syC s)):
  (results fn tmps).run Tryz.prog w= .ok (.agg (syC s)) w:=
 results_cell_row h tmps w g _ (syC s) (0,0) _ hp hg Tryz.underlying36 rfl (gH s)
theorem rD (s:Sy):Tryz.prog.built 36 [(0, .agg #[.slice s.A s.n s.c, .slice s.Am s.nm s.cm]),(1, .agg #[.int .i64 s.ta, .int .i64 s.tb, .slice s.At s.nt s.ct])]=some (syC s):=by
 kernel_rfl
def CyP (w:World) (e:Ending) (w' :World):Prop:=∃ s',e= .returned (.agg (syC s'))∧SyO w' w.heap.size s' ∧Below w.heap.size w w'
theorem o5 (s:Sy) (w:World) (b:Nat) (h:SyO w b s):
   Calls Tryz.prog 82 #[.agg (syC s)] w (CyP w):=by
 obtain ⟨ds,ms,ps,hh⟩:=h;have HO:=Hd hh;have HF:=Hd hh.few;have HT:=Hd hh.nt;clear hh;have hb0:=aT w (syC s) syZ 36 36;have h2:=Blk.new (w.alloc (.cells (syC s) 36)) syZ 36;simp only [World.size_alloc] at h2;have S0:=Hd (show Below w.heap.size w ((w.alloc (.cells (syC s) 36)).alloc (.cells syZ 36))∧Blk ((w.alloc (.cells (syC s) 36)).alloc (.cells syZ 36)) w.heap.size 36 (syC s) from ⟨hb0,(Blk.new w (syC s) 36).alloc _⟩);have R0:=Hd h2;clear hb0 h2;go_in;go_upto_region 1 with fail;generalize (w.alloc (.cells (syC s) 36)).alloc (.cells syZ 36)=w0 at *;have S1:=Hd (show Below w.heap.size w w0.drew∧Blk w0.drew w.heap.size 36 (syC s) from ⟨aa S0.o.1 (Below.refl w0.heap.size w0).drew,S0.o.2.below (Below.refl w0.heap.size w0).drew⟩);have R1:=Hd (R0.o.below (Below.refl w0.heap.size w0).drew);clear S0 R0;refine wp_region_held_drew (S:=(fun W=>Below w.heap.size w W∧Blk W w.heap.size 36 (syC s))) (by kernel_rfl) S1.o (fun hHeld=>?_);generalize w0.drew=w1 at *;refine tk hHeld 0 ?_ ?_ (tk hHeld 1 ?_ ?_ (tk hHeld 3 ?_ ?_ (tk hHeld 4 ?_ ?_ ?_)));iterate 4
   rotate_left
   · intro W hSw;have x0:=hSw.2.cell 0;have x1:=hSw.2.cell 1;have x2:=hSw.2.cell 2;have x3:=hSw.2.cell 3;have x4:=hSw.2.cell 4;go_simp;try (with_reducible rfl)
 refine rdy1 2 (fun K hK=>?_);go_simp;go_at_call 107;refine (pV ds s.A s.n s.c HF.o.2.2 ms s.Am s.nm s.cm HF.o.1 (by have:=HF.o.2.1;omega) w1 (HO.o.below S1.o.1).files (HO.o.below S1.o.1).aU).mono ?_;rintro e w2 ⟨A2,n2,c2,Am2,nm2,cm2,d2,rfl,hf,he,hm,hb⟩;have S2:=Hd (show Below w.heap.size w w2∧Blk w2 w.heap.size 36 (syC s) from ⟨aa S1.o.1 hb,S1.o.2.below hb⟩);have R2:=Hd (R1.o.below hb);have F2:=Hd (hf.low S1.o.1.size);have M2:=Hd (hm.low S1.o.1.size);have E2:=Hd he;clear hf hm he hb S1 R1;go_simp;refine hK.o _ _ S2.o (fun hHeld=>?_);clear hK K;refine rdy1 5 (fun K hK=>?_);go_simp;go_at_call 133;refine (qQ s.ta s.tb ps s.At s.nt s.ct HT.o.1 HT.o.2 (fun x hx=>(HO.o.tb.op x hx).2) w2 ((HO.o.below S2.o.1).tb.at'.2)).mono ?_;rintro e w3 ⟨At3,nt3,ct3,p3,rfl,hp,hb,_⟩;have S3:=Hd (show Below w.heap.size w w3∧Blk w3 w.heap.size 36 (syC s) from ⟨aa S2.o.1 hb,S2.o.2.below hb⟩);have R3:=Hd (R2.o.below hb);have O3:=Hd (show eT w3 w.heap.size ⟨A2,n2,c2,Am2,nm2,cm2,s.ta,s.tb,At3,nt3,ct3⟩ d2 ms p3 from ⟨F2.o.below hb,M2.o.below hb,by rw [E2.o];exact HO.o.so,hp.low S2.o.1.size⟩);clear hp hb S2 R2 F2 M2 E2;go_simp;refine hK.o _ _ S3.o (fun hHeld=>?_);clear hK K;refine rdy1 6 (fun K hK=>?_);refine fJ (by rfl) 36 _ (by rfl) (syC (⟨A2,n2,c2,Am2,nm2,cm2,s.ta,s.tb,At3,nt3,ct3⟩:Sy)) ?_ ?_
 · go_simp;exact rD (⟨A2,n2,c2,Am2,nm2,cm2,s.ta,s.tb,At3,nt3,ct3⟩:Sy)
 generalize (⟨A2,n2,c2,Am2,nm2,cm2,s.ta,s.tb,At3,nt3,ct3⟩:Sy)=s3 at *;refine hK.o _ _ S3.o (fun hHeld=>?_);clear hK K;refine rdy1 7 (fun K hK=>?_);refine ag (by rfl) 36 (.tmp 2) (.tmp 9) (by rfl) R3.o (syC s3) ?_ ?_ (gH _) rfl (eY _) ?_
 · go_simp
 · go_simp
 have S4:=Hd (show Below w.heap.size w (w3.setRow (w.heap.size+1) (syC s3))∧Blk (w3.setRow (w.heap.size+1) (syC s3)) w.heap.size 36 (syC s) from ⟨ai S3.o.1 (show w.heap.size≤w.heap.size+1 by omega) (syC s3),S3.o.2.ah _ (by omega)⟩);have O4:=Hd (O3.o.far (aA w3 (w.heap.size+1) (syC s3)) R3.o (by decide));have R4:=Hd (R3.o.row (syC s3));clear R3 O3 S3;refine hK.o _ _ S4.o (fun hHeld=>?_);clear hK K;generalize w3.setRow (w.heap.size+1) (syC s3)=w4 at *;refine wpAnyH_done (by kernel_rfl) ?_ _;go_wp2_with fail;refine bodyPost_ret (Aj (fn:=Tryz.f82) rfl _ _ (w.heap.size+1) s3 rfl R4.o) rfl ?_;exact ⟨s3,rfl,⟨_,_,_,O4.o⟩,S4.o.1⟩
def vT (d i:Int):Pm:=⟨⟨1,0,0,0,0,0,4294967295,4294967295,d,i,⟨#[105,110,105,116]⟩,⟨#[47,105,110,105,116]⟩,true⟩, [],none,0⟩
def NwP (d i:Int) (w:World) (e:Ending) (w' :World):Prop:=∃ (A:Option Addr) (c:Nat),e= .returned (.agg (tbC 2 1 (.slice A 1 c)))∧ax EPc w' w.heap.size (.slice A 1 c) [vT d i]∧Below w.heap.size w w'
theorem Km (d i:Int) (w:World):Calls Tryz.prog 80 #[flV d i] w (NwP d i w):=by
 have hb0:=aT w #[.int .i64 d, .int .i64 i] (tbC 0 0 (.slice none 0 0)) 44 34;have h2:=Blk.new (w.alloc (.cells #[.int .i64 d, .int .i64 i] 44)) (tbC 0 0 (.slice none 0 0)) 34;simp only [World.size_alloc] at h2;have B0:=Hd hb0;have U0:=Hd ((Blk.new w #[.int .i64 d, .int .i64 i] 44).alloc (.cells (tbC 0 0 (.slice none 0 0)) 34));have R0:=Hd h2;have HW:=Hd (show ((w.alloc (.cells #[.int .i64 d, .int .i64 i] 44)).alloc (.cells (tbC 0 0 (.slice none 0 0)) 34)).heap.size=w.heap.size+1+1 by simp);clear hb0 h2;go_in;go_upto_region 1 with fail;generalize (w.alloc (.cells #[.int .i64 d, .int .i64 i] 44)).alloc (.cells (tbC 0 0 (.slice none 0 0)) 34)=w0 at *;have u0:=U0.o.cell 0;have u1:=U0.o.cell 1;have R1:=Hd (R0.o.alloc (.cells #[.int .i64 1, .int .i64 0, .int .i64 0, .int .i64 0, .int .i64 0, .int .i64 0, .int .i64 4294967295, .int .i64 4294967295, .int .i64 d, .int .i64 i, .string ⟨#[105,110,105,116]⟩, .string ⟨#[47,105,110,105,116]⟩, .slice none 0 0, .bool true] 47));have B1:=Hd (B0.o.alloc B0.o.size (.cells #[.int .i64 1, .int .i64 0, .int .i64 0, .int .i64 0, .int .i64 0, .int .i64 0, .int .i64 4294967295, .int .i64 4294967295, .int .i64 d, .int .i64 i, .string ⟨#[105,110,105,116]⟩, .string ⟨#[47,105,110,105,116]⟩, .slice none 0 0, .bool true] 47));have O1:=Hd (uh EPc w0 w0.heap.size #[.int .i64 1, .int .i64 0, .int .i64 0, .int .i64 0, .int .i64 0, .int .i64 0, .int .i64 4294967295, .int .i64 4294967295, .int .i64 d, .int .i64 i, .string ⟨#[105,110,105,116]⟩, .string ⟨#[47,105,110,105,116]⟩, .slice none 0 0, .bool true] (vT d i) rfl (Nat.le_refl _));go_wp2_with ((with_reducible refine ae ?_ 34 (.tmp 2) (.tmp 6) ?_ R1.o (tbC 2 1 (.slice (some ⟨w0.heap.size,0,none⟩) 1 1)) ?_ ?_ ?_ ?_ ?_ ?_);(iterate 4 rfl);(exact aK _ _ _);rfl;(exact aP _ _ _ _ _));refine bodyPost_ret (uO (fn:=Tryz.f80) rfl _ _ (w.heap.size+1) 2 1 (.slice (some ⟨w0.heap.size,0,none⟩) 1 1) rfl (Blk.row R1.o _)) rfl ?_;have gr:=aA (w0.alloc (.cells #[.int .i64 1, .int .i64 0, .int .i64 0, .int .i64 0, .int .i64 0, .int .i64 0, .int .i64 4294967295, .int .i64 4294967295, .int .i64 d, .int .i64 i, .string ⟨#[105,110,105,116]⟩, .string ⟨#[47,105,110,105,116]⟩, .slice none 0 0, .bool true] 47)) (w.heap.size+1) (tbC 2 1 (.slice (some ⟨w0.heap.size,0,none⟩) 1 1));exact ⟨_,1,rfl,(O1.o.far gr (fun q e r=>by injection r with r;have:=O1.o.ge q e;have:=HW.o;omega)).low (by have:=HW.o;omega),ai B1.o (by omega) _⟩
theorem Cy {fn:Func} {i j:Nat} (h:fn.results=#[.cell i 36, .tmp j]) (tmps:Array Value) (w:World) (g:Nat) (s:Sy) (hp:tmps.getD i undef= .pointer (some ⟨g,0,none⟩)) (hg:Blk w g 36 (syC s)):
  (results fn tmps).run Tryz.prog w= .ok (.tuple #[.agg (syC s),tmps.getD j undef]) w:=by
 have hp' :tmps[i]?.getD undef= .pointer (some ⟨g,0,none⟩):=by simpa using hp
 simp [results,h,hp',asAddr,run_loadVar_row w g 36 36 (syC s) (0,0) _ hg Tryz.underlying36 rfl (gH s)]
def NwY (w:World) (e:Ending) (w' :World):Prop:=∃ s',e= .returned (.tuple #[.agg (syC s'), .int .i64 0])∧SyO w' w.heap.size s' ∧Below w.heap.size w w'
theorem aJ.init {w:World} {base:Nat} {A:Option Addr} {c:Nat} (d i:Int) (h:ax EPc w base (.slice A 1 c) [vT d i]):aJ w base (.slice A 1 c) [vT d i]:=
 ⟨h,by show 1≤16;omega,fun x hx=>by rw [List.mem_singleton.1 hx];exact ⟨ax.nil _ _,by show (0:Nat)≤8;omega,by show (4:Nat)≤640;omega,by show (5:Nat)≤640;omega⟩⟩
theorem Kn (n:Nat) (h1:1≤n) (h3:n≤3) (w:World):
   Calls Tryz.prog 37 #[.int .i64 (n:Int)] w (NwY w):=by
 have S0:=Hd (show Below w.heap.size w (w.alloc (.cells syZ 36)) from (Below.refl _ _).alloc (Nat.le_refl _) _);have R0:=Hd (Blk.new w syZ 36);go_in;go_wp2_with fail;generalize w.alloc (.cells syZ 36)=w0 at *;refine (JJ n h1 h3 w0).mono ?_;rintro e w1 ⟨v,ds,rfl,hf,he,hb⟩;have S1:=Hd (aa S0.o hb);have R1:=Hd (R0.o.below hb);have F1:=Hd (hf.low S0.o.size);have E1:=Hd he;clear hf he hb S0 R0;obtain ⟨A,c,rfl,_⟩:=F1.o.own.at;go_upto_region 4 with fail;have hb:=(Below.refl w1.heap.size w1).alloc (Nat.le_refl _) (.cells #[.slice A ds.length c] 28);have S2:=Hd (aa S1.o hb);have R2:=Hd (R1.o.below hb);have F2:=Hd (F1.o.below hb);have X2:=Hd (Blk.new w1 #[.slice A ds.length c] 28);generalize w1.heap.size=gf at *;clear hb S1 R1 F1;generalize w1.alloc (.cells #[.slice A ds.length c] 28)=w2 at *;have S3:=Hd (show Below w.heap.size w w2.drew∧Blk w2.drew gf 28 #[.slice A ds.length c] from ⟨aa S2.o (Below.refl w2.heap.size w2).drew,X2.o.below (Below.refl w2.heap.size w2).drew⟩);have R3:=Hd (R2.o.below (Below.refl w2.heap.size w2).drew);have F3:=Hd (F2.o.below (Below.refl w2.heap.size w2).drew);have HG:=Hd (show w.heap.size≤w2.heap.size from S2.o.size);clear S2 R2 F2 X2;refine wp_region_held_drew (S:=(fun W=>Below w.heap.size w W∧Blk W gf 28 #[.slice A ds.length c])) (by kernel_rfl) S3.o (fun hHeld=>?_);generalize w2.drew=w3 at *;refine tk hHeld 0 ?_ ?_ (tk hHeld 1 ?_ ?_ (tk hHeld 2 ?_ ?_ ?_));iterate 3
   rotate_left
   · intro W hSw;have x0:=hSw.2.cell 0;go_simp;try (with_reducible rfl)
 refine rdy1 3 (fun K hK=>?_);go_simp;go_at_call 80;refine (Km 0 1 w3).mono ?_;rintro e w4 ⟨At,ct,rfl,hp,hb⟩;have hsz:=S3.o.1.size;have S4:=Hd (show Below w.heap.size w w4∧Blk w4 gf 28 #[.slice A ds.length c] from ⟨aa S3.o.1 hb,S3.o.2.below hb⟩);have R4:=Hd (R3.o.below hb);have O4:=Hd (show eT w4 w.heap.size ⟨A,ds.length,c,none,0,0,2,1,At,1,ct⟩ ds [] [vT 0 1] from ⟨F3.o.below hb,ax.nil _ _,by rw [E1.o];exact ⟨FOk.new h1 h3, .nil⟩,aJ.init 0 1 (hp.low hsz)⟩);clear hp hb S3 R3 F3 hsz;go_simp;refine hK.o _ _ S4.o (fun hHeld=>?_);clear hK K;refine rdy1 4 (fun K hK=>?_);refine fJ (by rfl) 36 _ (by rfl) (syC (⟨A,ds.length,c,none,0,0,2,1,At,1,ct⟩:Sy)) ?_ ?_
 · go_simp;exact rD (⟨A,ds.length,c,none,0,0,2,1,At,1,ct⟩:Sy)
 generalize (⟨A,ds.length,c,none,0,0,2,1,At,1,ct⟩:Sy)=s3 at *;refine hK.o _ _ S4.o (fun hHeld=>?_);clear hK K;refine rdy1 5 (fun K hK=>?_);refine ag (by rfl) 36 (.tmp 2) (.tmp 19) (by rfl) R4.o (syC s3) ?_ ?_ (gH _) rfl (eY _) ?_
 · go_simp
 · go_simp
 have hne:gf≠w.heap.size:=fun e=>by subst e;have h5:=R4.o;have h6:=S4.o.2;unfold Blk at h5 h6;rw [h5] at h6;injection h6 with h6;injection h6 with _ h6;exact absurd h6 (by decide)
 have S5:=Hd (show Below w.heap.size w (w4.setRow w.heap.size (syC s3))∧Blk (w4.setRow w.heap.size (syC s3)) gf 28 #[.slice A ds.length c] from ⟨ai S4.o.1 (Nat.le_refl _) (syC s3),S4.o.2.ah _ hne⟩);have O5:=Hd (O4.o.far (aA w4 w.heap.size (syC s3)) R4.o (by decide));have R5:=Hd (R4.o.row (syC s3));clear R4 O4 S4 hne;refine hK.o _ _ S5.o (fun hHeld=>?_);clear hK K;generalize w4.setRow w.heap.size (syC s3)=w5 at *;refine tk hHeld 6 ?_ ?_ ?_;rotate_left
 · intro W hSw;go_simp;try (with_reducible rfl)
 refine wpAnyH_done (by kernel_rfl) ?_ _;go_wp2_with fail;refine bodyPost_ret (Cy (fn:=Tryz.f37) rfl _ _ w.heap.size s3 rfl R5.o) rfl ?_;exact ⟨s3,rfl,⟨_,_,_,O5.o⟩,S5.o.1⟩
theorem Gn {w:World} {base:Nat} {e:TypeId} {size:Nat} {v:Value} {k:Nat} {xs:List Value} (h:w.ownsRow base e size v k xs) {q:Nat} {t:TypeId} {cs:Array Value} (hk:Blk w q t cs) (hne:e≠t):v.ownBlock≠some q:=fun e2=>by
 rcases h.2 with ⟨rfl,_⟩ | ⟨g',cap,cur,rfl,_,hgg,_⟩
 · cases e2
 · have e3:g' =q:=Option.some.inj e2;subst e3;rw [show w.heap[g']? =_ from hk] at hgg;injection hgg with hgg;injection hgg with _ h2;exact hne h2.symm
theorem nL {w w' :World} {base:Nat} {e:TypeId} {size:Nat} {v:Value} {k:Nat} {xs:List Value} (h:w.ownsRow base e size v k xs) {q:Nat} {t:TypeId} {cs:Array Value} (hk:Blk w q t cs) (hne:e≠t) (hg:w.grownBy w' (some q)):w'.ownsRow base e size v k xs:=
 World.ownsRow.kept h hg (by
  cases hv:v.ownBlock with
  | none=>exact .inl rfl
  | some k=>right;intro e2;exact Gn h hk hne (by rw [hv];exact e2))
def yV (m:Mk) (base g:Nat) (L:List Rc) (w:World) (e:Ending) (w' :World):Prop:=e= .returned (.tuple #[])∧EvG m w' base g L∧Below base w w' ∧∀ (k:Nat) (t:TypeId) (cs:Array Value),t≠77→k≠g→Blk w k t cs→Blk w' k t cs
attribute [local irreducible] Mk.C Mk.ex
attribute [-go_sem] loadVar
attribute [local go_sem] lv3 Ea Eb
theorem wF (m:Mk) (base g:Nat) (L:List Rc) (t:Int) (A:Option Addr) (n c:Nat) (ps:List Pr) (hn:n=ps.length) (hl:n≤1000) (hL:L.length < 2000) (w:World) (hE:EvG m w base g L) (hA:AtE EP w w.heap.size A ps):
  Calls Tryz.prog 46 #[.pointer (some ⟨g,0,none⟩), .int .i64 t, .slice A n c] w (yV m base g (jU m L t ps) w):=by
 obtain ⟨v,hb,xs,exs,ho,hp⟩:=hE.blk;have HG:=Hd hb;have HO:=Hd ho;have HP:=Hd hp;have HX:=Hd exs;have HE:=Hd hE;have HA:=Hd hA;have HN:=Hd hn;have HLL:=Hd hL;have hlt:=hb.lt;have hbg:=hE.hg;have HNE:=Hd (az ho hb (show (77:Nat)≠124 by decide));clear hb ho hp exs hE hA hn hL;go_in;go_upto_region 0 with fail;go_cut [16] (fun u wx=>u= .bool (!m.ex t)∧Below w.heap.size w wx);case first=>
  refine wp_region_held_drew (S:=(fun w' =>Blk w' g 124 (m.C v))) (by kernel_rfl) (Blk.below HG.o (Below.refl _ _).drew) (fun hHeld=>?_);refine tk hHeld 0 ?_ ?_ (tk hHeld 1 ?_ ?_ (tk hHeld 2 ?_ ?_ (tk hHeld 3 ?_ ?_ (tk hHeld 4 ?_ ?_ (tk hHeld 5 ?_ ?_ (tk hHeld 6 ?_ ?_ (tk hHeld 7 ?_ ?_ (tk hHeld 8 ?_ ?_ ?_))))))));iterate 9
    rotate_left
    · intro w hSw;have hl:=Gv hSw;have Kw:=Ay hSw;go_simp;first | (with_reducible rfl) | (rw [if_neg (by first | omega | (simp;omega))])
  refine rdy1 9 (fun K hK=>?_);go_simp;go_at_call 94;have HE1:=HE.o.below (Below.refl w.heap.size w).drew;refine (HE1.ok.xc t _ (HE1.rules.more (Nat.le_trans hbg (Nat.le_of_lt HE1.lt))) (HE1.items.more (Nat.le_trans hbg (Nat.le_of_lt HE1.lt)))).mono ?_;rintro e w1 ⟨rfl,hb1⟩;clear HE1;have HB1:=Hd (aa (Below.refl w.heap.size w).drew hb1);have hh:=Blk.below hHeld hb1;clear hb1;go_simp;refine hK.o _ _ hh (fun hHeld=>?_);clear hK K;clear hh;refine tk hHeld 10 ?_ ?_ ?_;rotate_left
  · intro w hSw;go_simp;first | (with_reducible rfl) | (rw [if_neg (by first | omega | (simp;omega))])
  refine wpAnyH_done (by kernel_rfl) ?_ _;go_wp2_with fail;go_meet;exact ⟨by rw [m.Gu],HB1.o⟩
 case rest=>
 obtain ⟨rfl,hb0⟩:=hcut;have HB0:=Hd hb0;clear hb0;cases hx:m.ex t with
 | true=>
  simp only [Bool.not_true];go_wp2_with fail
  go_end0
  exact ⟨rfl,by unfold jU;rw [if_pos hx];exact HE.o.below HB0.o,HB0.o.mono (by omega),fun k t cs _ _ hk=>hk.below HB0.o⟩
 | false=>
  simp only [Bool.not_false];have HAD:=Hd (show jU m L t ps=L ++ [⟨t,m.ti,0,ps⟩] by unfold jU;rw [if_neg (by rw [hx];decide)]);clear hx;go_wp2_with fail;have HB1:=Hd HB0.o.drew;have HA2:=Hd (HA.o.below HB1.o);refine wp_region_held_drew (S:=(fun w' =>∃ v,Blk w' g 124 (m.C v))) (by kernel_rfl) ⟨_,HG.o.below HB1.o⟩ (fun hHeld=>?_);clear HB0;generalize wc.drew=wd at *;refine tk hHeld 0 ?_ ?_ (tk hHeld 1 ?_ ?_ (tk hHeld 2 ?_ ?_ (tk hHeld 3 ?_ ?_ (tk hHeld 5 ?_ ?_ (tk hHeld 6 ?_ ?_ (tk hHeld 7 ?_ ?_ (tk hHeld 8 ?_ ?_ (tk hHeld 9 ?_ ?_ (tk hHeld 10 ?_ ?_ ?_)))))))));iterate 10
    rotate_left
    · intro w hSw;obtain ⟨vv,hb⟩:=hSw;have k27:=(hb.cell 27).trans (m.c27 vv);go_simp;first | (with_reducible rfl) | (rw [if_neg (by first | omega | (simp;omega))])
  have HWD:=Hd (show w.heap.size≤wd.heap.size from HB1.o.size);refine wpAnyH_ready (rs:= [4,11]) (by kernel_rfl) (by simp) ?_;refine (AllReadyH.cons rfl (fun K hK=>?_) (AllReadyH.cons rfl (fun K hK=>?_) AllReadyH.nil))
  · have k28:=((HG.o.below HB1.o).cell 28).trans (m.c28 v);go_simp;refine hK.o _ _ hHeld (fun hHeld=>?_);clear hK K k28;refine wpAnyH_ready (rs:= [11]) (by kernel_rfl) (by simp) ?_;refine (AllReadyH.cons rfl (fun K hK=>?_) AllReadyH.nil);go_simp;go_at_call 66;refine (zW A n c ps HN.o hl _ HA2.o).mono ?_;rintro e w1 ⟨A',c',rfl,hoc,hb1⟩;have HB1:=Hd (aa HB1.o hb1);have HOC:=Hd (hoc.low (base:=base) (by have:=HWD.o;omega));clear hoc hb1;go_simp;refine hK.o _ _ ⟨_,HG.o.below HB1.o⟩ (fun hHeld=>?_);clear hK K;refine tk hHeld 12 ?_ ?_ ?_;rotate_left
    · intro w hSw;go_simp;first | (with_reducible rfl) | (rw [if_neg (by first | omega | (simp;omega))])
    refine wpAnyH_ready (rs:= [13]) (by kernel_rfl) (by simp) ?_;refine (AllReadyH.cons rfl (fun K hK=>?_) AllReadyH.nil);have HB1:=Hd (HB1.o.alloc HB1.o.size (.cells #[.int .i64 t, .int .i64 m.ti, .int .i64 0, .slice A' n c'] 77));have HOC:=Hd (HOC.o.alloc (.cells #[.int .i64 t, .int .i64 m.ti, .int .i64 0, .slice A' n c'] 77));have RW:=Hd (aI ER w1 #[.int .i64 t, .int .i64 m.ti, .int .i64 0, .slice A' n c'] 77 (⟨⟨t,m.ti,0,ps⟩,A',c'⟩:Rm) (by rw [HN.o];rfl) (Nat.lt_succ_self w1.heap.size));go_simp;refine hK.o _ _ ⟨_,HG.o.below HB1.o⟩ (fun hHeld=>?_);clear hK K;have HXL:=Hd (show xs.length+1≤1000000 by have:=HLL.o;rw [← HX.o,List.length_map] at this;omega);refine rdy1 14 (fun K hK=>?_);refine aQ ER (by rfl) (.tmp 21) (.tmp 30) (by rfl) base v xs (by rfl) (HO.o.below HB1.o) (w1.heap.size+1) (some ⟨w1.heap.size,0,none⟩) 1 1 [(⟨⟨t,m.ti,0,ps⟩,A',c'⟩:Rm)] (by rfl) (by rfl) RW.o HXL.o (by have:=HB1.o.size;omega) ?_;intro v6 w6 ho6 hg6 iL;have HG6:=Hd (Blk.grown (HG.o.below HB1.o) hg6 HNE.o);have HR6:=Hd (dK.app (w:=w1.alloc (.cells #[.int .i64 t, .int .i64 m.ti, .int .i64 0, .slice A' n c'] 77)) (base:=base) (v:=v) (L:=L) ⟨xs,HX.o,HO.o.below HB1.o,fun x hx=>(HP.o x hx).below HB1.o⟩ (⟨⟨t,m.ti,0,ps⟩,A',c'⟩:Rm) HX.o (HO.o.below HB1.o) (fun x hx=>(HP.o x hx).below HB1.o) (by show ax EP _ base (.slice A' ps.length c') ps;rw [← HN.o];exact HOC.o) ho6 hg6);have HB6:=Hd ((HB1.o.mono (show base≤w.heap.size by omega)).grown hg6 (by have:=HB1.o.size;omega) (fun k e=>HO.o.ge k e));have HKP:=Hd (show ∀ (k:Nat) (t:TypeId) (cs:Array Value),t≠77→Blk w k t cs→Blk w6 k t cs from fun k t cs ht hk=>Blk.grown (hk.below HB1.o) hg6 (az (HO.o.below HB1.o) (hk.below HB1.o) (fun e=>ht e.symm)));obtain ⟨A7,c7,e7,_⟩:=ho6.at;subst e7;generalize (xs ++ [(⟨⟨t,m.ti,0,ps⟩,A',c'⟩:Rm)]).length=l7 at *;refine hK.o _ _ ⟨_,HG6.o⟩ (fun hHeld=>?_);clear hK K hg6 iL ho6;refine tk hHeld 15 ?_ ?_ (tk hHeld 16 ?_ ?_ ?_);iterate 2
      rotate_left
      · intro w hSw;go_simp;first | (with_reducible rfl) | (rw [if_neg (by first | omega | (simp;omega))])
    have k28:=(HG6.o.cell 28).trans (m.c28 _);have f28:=HG6.o.free 28;have hg7:=Blk.put HG6.o 28 (.slice A7 l7 c7);rw [m.set] at hg7;have HG7:=Hd hg7;clear hg7;refine rdy1 17 (fun K hK=>?_);go_simp;refine hK.o _ _ ⟨_,HG7.o⟩ (fun hHeld=>?_);clear hK K;refine wpAnyH_done (by kernel_rfl) ?_ _;clear k28 f28;go_wp2_with fail
    go_end0
    have HBF:=HB6.o.setCell (p:=⟨g,28,none⟩) hbg (.slice A7 l7 c7);refine ⟨rfl,?_,HBF,fun k t cs ht hkg hk=>Blk.af (HKP.o k t cs ht hk) _ (by show k≠g;exact hkg)⟩;rw [HAD.o];exact ⟨⟨_,HG7.o,HR6.o.cell HG6.o (by decide) (by decide) _⟩,hbg,HE.o.rules.keep HBF (Nat.le_refl _),HE.o.items.keep HBF (Nat.le_refl _),HE.o.ok,by have:=HLL.o;rw [List.length_append,List.length_singleton];omega⟩
  · go_simp;go_at_call 66;refine (zW A n c ps HN.o hl _ HA2.o).mono ?_;rintro e w1 ⟨A',c',rfl,hoc,hb1⟩;have HB1:=Hd (aa HB1.o hb1);have HOC:=Hd (hoc.low (base:=base) (by have:=HWD.o;omega));clear hoc hb1;go_simp;refine hK.o _ _ ⟨_,HG.o.below HB1.o⟩ (fun hHeld=>?_);clear hK K;refine tk hHeld 12 ?_ ?_ ?_;rotate_left
    · intro w hSw;go_simp;first | (with_reducible rfl) | (rw [if_neg (by first | omega | (simp;omega))])
    refine wpAnyH_ready (rs:= [4,13]) (by kernel_rfl) (by simp) ?_;refine (AllReadyH.cons rfl (fun K hK=>?_) (AllReadyH.cons rfl (fun K hK=>?_) AllReadyH.nil))
    · have k28:=((HG.o.below HB1.o).cell 28).trans (m.c28 v);go_simp;refine hK.o _ _ hHeld (fun hHeld=>?_);clear hK K k28;refine wpAnyH_ready (rs:= [13]) (by kernel_rfl) (by simp) ?_;refine (AllReadyH.cons rfl (fun K hK=>?_) AllReadyH.nil);have HB1:=Hd (HB1.o.alloc HB1.o.size (.cells #[.int .i64 t, .int .i64 m.ti, .int .i64 0, .slice A' n c'] 77));have HOC:=Hd (HOC.o.alloc (.cells #[.int .i64 t, .int .i64 m.ti, .int .i64 0, .slice A' n c'] 77));have RW:=Hd (aI ER w1 #[.int .i64 t, .int .i64 m.ti, .int .i64 0, .slice A' n c'] 77 (⟨⟨t,m.ti,0,ps⟩,A',c'⟩:Rm) (by rw [HN.o];rfl) (Nat.lt_succ_self w1.heap.size));go_simp;refine hK.o _ _ ⟨_,HG.o.below HB1.o⟩ (fun hHeld=>?_);clear hK K;have HXL:=Hd (show xs.length+1≤1000000 by have:=HLL.o;rw [← HX.o,List.length_map] at this;omega);refine rdy1 14 (fun K hK=>?_);refine aQ ER (by rfl) (.tmp 21) (.tmp 30) (by rfl) base v xs (by rfl) (HO.o.below HB1.o) (w1.heap.size+1) (some ⟨w1.heap.size,0,none⟩) 1 1 [(⟨⟨t,m.ti,0,ps⟩,A',c'⟩:Rm)] (by rfl) (by rfl) RW.o HXL.o (by have:=HB1.o.size;omega) ?_;intro v6 w6 ho6 hg6 iL;have HG6:=Hd (Blk.grown (HG.o.below HB1.o) hg6 HNE.o);have HR6:=Hd (dK.app (w:=w1.alloc (.cells #[.int .i64 t, .int .i64 m.ti, .int .i64 0, .slice A' n c'] 77)) (base:=base) (v:=v) (L:=L) ⟨xs,HX.o,HO.o.below HB1.o,fun x hx=>(HP.o x hx).below HB1.o⟩ (⟨⟨t,m.ti,0,ps⟩,A',c'⟩:Rm) HX.o (HO.o.below HB1.o) (fun x hx=>(HP.o x hx).below HB1.o) (by show ax EP _ base (.slice A' ps.length c') ps;rw [← HN.o];exact HOC.o) ho6 hg6);have HB6:=Hd ((HB1.o.mono (show base≤w.heap.size by omega)).grown hg6 (by have:=HB1.o.size;omega) (fun k e=>HO.o.ge k e));have HKP:=Hd (show ∀ (k:Nat) (t:TypeId) (cs:Array Value),t≠77→Blk w k t cs→Blk w6 k t cs from fun k t cs ht hk=>Blk.grown (hk.below HB1.o) hg6 (az (HO.o.below HB1.o) (hk.below HB1.o) (fun e=>ht e.symm)));obtain ⟨A7,c7,e7,_⟩:=ho6.at;subst e7;generalize (xs ++ [(⟨⟨t,m.ti,0,ps⟩,A',c'⟩:Rm)]).length=l7 at *;refine hK.o _ _ ⟨_,HG6.o⟩ (fun hHeld=>?_);clear hK K hg6 iL ho6;refine tk hHeld 15 ?_ ?_ (tk hHeld 16 ?_ ?_ ?_);iterate 2
        rotate_left
        · intro w hSw;go_simp;first | (with_reducible rfl) | (rw [if_neg (by first | omega | (simp;omega))])
      have k28:=(HG6.o.cell 28).trans (m.c28 _);have f28:=HG6.o.free 28;have hg7:=Blk.put HG6.o 28 (.slice A7 l7 c7);rw [m.set] at hg7;have HG7:=Hd hg7;clear hg7;refine rdy1 17 (fun K hK=>?_);go_simp;refine hK.o _ _ ⟨_,HG7.o⟩ (fun hHeld=>?_);clear hK K;refine wpAnyH_done (by kernel_rfl) ?_ _;clear k28 f28;go_wp2_with fail
      go_end0
      have HBF:=HB6.o.setCell (p:=⟨g,28,none⟩) hbg (.slice A7 l7 c7);refine ⟨rfl,?_,HBF,fun k t cs ht hkg hk=>Blk.af (HKP.o k t cs ht hk) _ (by show k≠g;exact hkg)⟩;rw [HAD.o];exact ⟨⟨_,HG7.o,HR6.o.cell HG6.o (by decide) (by decide) _⟩,hbg,HE.o.rules.keep HBF (Nat.le_refl _),HE.o.items.keep HBF (Nat.le_refl _),HE.o.ok,by have:=HLL.o;rw [List.length_append,List.length_singleton];omega⟩
    · have HB1:=Hd (HB1.o.alloc HB1.o.size (.cells #[.int .i64 t, .int .i64 m.ti, .int .i64 0, .slice A' n c'] 77));have HOC:=Hd (HOC.o.alloc (.cells #[.int .i64 t, .int .i64 m.ti, .int .i64 0, .slice A' n c'] 77));have RW:=Hd (aI ER w1 #[.int .i64 t, .int .i64 m.ti, .int .i64 0, .slice A' n c'] 77 (⟨⟨t,m.ti,0,ps⟩,A',c'⟩:Rm) (by rw [HN.o];rfl) (Nat.lt_succ_self w1.heap.size));go_simp;refine hK.o _ _ ⟨_,HG.o.below HB1.o⟩ (fun hHeld=>?_);clear hK K;refine wpAnyH_ready (rs:= [4]) (by kernel_rfl) (by simp) ?_;refine (AllReadyH.cons rfl (fun K hK=>?_) AllReadyH.nil);have k28:=((HG.o.below HB1.o).cell 28).trans (m.c28 v);go_simp;refine hK.o _ _ hHeld (fun hHeld=>?_);clear hK K k28;have HXL:=Hd (show xs.length+1≤1000000 by have:=HLL.o;rw [← HX.o,List.length_map] at this;omega);refine rdy1 14 (fun K hK=>?_);refine aQ ER (by rfl) (.tmp 21) (.tmp 30) (by rfl) base v xs (by rfl) (HO.o.below HB1.o) (w1.heap.size+1) (some ⟨w1.heap.size,0,none⟩) 1 1 [(⟨⟨t,m.ti,0,ps⟩,A',c'⟩:Rm)] (by rfl) (by rfl) RW.o HXL.o (by have:=HB1.o.size;omega) ?_;intro v6 w6 ho6 hg6 iL;have HG6:=Hd (Blk.grown (HG.o.below HB1.o) hg6 HNE.o);have HR6:=Hd (dK.app (w:=w1.alloc (.cells #[.int .i64 t, .int .i64 m.ti, .int .i64 0, .slice A' n c'] 77)) (base:=base) (v:=v) (L:=L) ⟨xs,HX.o,HO.o.below HB1.o,fun x hx=>(HP.o x hx).below HB1.o⟩ (⟨⟨t,m.ti,0,ps⟩,A',c'⟩:Rm) HX.o (HO.o.below HB1.o) (fun x hx=>(HP.o x hx).below HB1.o) (by show ax EP _ base (.slice A' ps.length c') ps;rw [← HN.o];exact HOC.o) ho6 hg6);have HB6:=Hd ((HB1.o.mono (show base≤w.heap.size by omega)).grown hg6 (by have:=HB1.o.size;omega) (fun k e=>HO.o.ge k e));have HKP:=Hd (show ∀ (k:Nat) (t:TypeId) (cs:Array Value),t≠77→Blk w k t cs→Blk w6 k t cs from fun k t cs ht hk=>Blk.grown (hk.below HB1.o) hg6 (az (HO.o.below HB1.o) (hk.below HB1.o) (fun e=>ht e.symm)));obtain ⟨A7,c7,e7,_⟩:=ho6.at;subst e7;generalize (xs ++ [(⟨⟨t,m.ti,0,ps⟩,A',c'⟩:Rm)]).length=l7 at *;refine hK.o _ _ ⟨_,HG6.o⟩ (fun hHeld=>?_);clear hK K hg6 iL ho6;refine tk hHeld 15 ?_ ?_ (tk hHeld 16 ?_ ?_ ?_);iterate 2
        rotate_left
        · intro w hSw;go_simp;first | (with_reducible rfl) | (rw [if_neg (by first | omega | (simp;omega))])
      have k28:=(HG6.o.cell 28).trans (m.c28 _);have f28:=HG6.o.free 28;have hg7:=Blk.put HG6.o 28 (.slice A7 l7 c7);rw [m.set] at hg7;have HG7:=Hd hg7;clear hg7;refine rdy1 17 (fun K hK=>?_);go_simp;refine hK.o _ _ ⟨_,HG7.o⟩ (fun hHeld=>?_);clear hK K;refine wpAnyH_done (by kernel_rfl) ?_ _;clear k28 f28;go_wp2_with fail
      go_end0
      have HBF:=HB6.o.setCell (p:=⟨g,28,none⟩) hbg (.slice A7 l7 c7);refine ⟨rfl,?_,HBF,fun k t cs ht hkg hk=>Blk.af (HKP.o k t cs ht hk) _ (by show k≠g;exact hkg)⟩;rw [HAD.o];exact ⟨⟨_,HG7.o,HR6.o.cell HG6.o (by decide) (by decide) _⟩,hbg,HE.o.rules.keep HBF (Nat.le_refl _),HE.o.items.keep HBF (Nat.le_refl _),HE.o.ok,by have:=HLL.o;rw [List.length_append,List.length_singleton];omega⟩
end Go.Proofs.YtollifnnpihfdaaGreatDoor
namespace Go.Proofs.YtollifnnpihfdaaGreatDoor
def CQ (ex:Int):ByteArray:=if ex < 0 then ⟨#[110,111]⟩ else ⟨#[121,101,115]⟩
def sD (m:Mk) (key:ByteArray):List Pr:= [txP ⟨#[99,97,108,108]⟩ (dI m.r.n).name,txP ⟨#[115,117,99,99,101,115,115]⟩ (CQ m.cx.ex),nuP ⟨#[101,120,105,116]⟩ m.cx.ex,nuP ⟨#[97,48]⟩ (m.cx.a 0),nuP ⟨#[97,49]⟩ (m.cx.a 1),nuP ⟨#[97,50]⟩ (m.cx.a 2),nuP ⟨#[97,51]⟩ (m.cx.a 3),nuP ⟨#[105,116,101,109,115]⟩ (m.is.length:Int),nuP ⟨#[112,112,105,100]⟩ (m.cx.p 1),nuP ⟨#[112,105,100]⟩ (m.cx.p 0),nuP ⟨#[97,117,105,100]⟩ (m.cx.p 6),nuP ⟨#[117,105,100]⟩ (m.cx.p 2),nuP ⟨#[103,105,100]⟩ (m.cx.p 4),nuP ⟨#[101,117,105,100]⟩ (m.cx.p 3),nuP ⟨#[101,103,105,100]⟩ (m.cx.p 5),nuP ⟨#[115,101,115]⟩ (m.cx.p 7),soP ⟨#[99,111,109,109]⟩ m.cx.comm,soP ⟨#[101,120,101]⟩ m.cx.exe,soP ⟨#[107,101,121]⟩ key]
def Gw (k:Nat):ByteArray:=⟨#[97,48+UInt8.ofNat k]⟩
def wG (args:List ByteArray):List Pr:=nuP ⟨#[97,114,103,99]⟩ args.length :: (args.take 4).mapIdx (fun k s=>txP (Gw k) s)
def CR (m:Mk) (s:ByteArray):List Pr:= [txP ⟨#[104,111,115,116]⟩ s,nuP ⟨#[112,111,114,116]⟩ (m.cx.a 0)]
def CS (s:ByteArray):List Pr:= [soP ⟨#[99,119,100]⟩ s]
def qp (k:Int):ByteArray:=if k=1 then ⟨#[102,105,108,101]⟩ else if k=2 then ⟨#[100,105,114]⟩ else if k=3 then ⟨#[108,105,110,107]⟩ else ⟨#[110,111,110,101]⟩
def qw (k:Int):ByteArray:=if k=1 then ⟨#[110,111,114,109,97,108]⟩ else if k=2 then ⟨#[99,114,101,97,116,101]⟩ else if k=3 then ⟨#[100,101,108,101,116,101]⟩ else ⟨#[110,111,110,101]⟩
def yX (i:Nat) (y:Itm) (r:bB):List Pr:= [nuP ⟨#[105,116,101,109]⟩ i,txP ⟨#[110,97,109,101]⟩ r.gv,soP ⟨#[112,97,116,104]⟩ r.pa,nuP ⟨#[100,101,118]⟩ y.dev,nuP ⟨#[105,110,111,100,101]⟩ y.ino,nuP ⟨#[109,111,100,101]⟩ r.mo,nuP ⟨#[111,117,105,100]⟩ y.uid,nuP ⟨#[111,103,105,100]⟩ y.gid,txP ⟨#[107,105,110,100]⟩ (qp y.kind),txP ⟨#[114,111,108,101]⟩ (qw r.ro),nuP ⟨#[112,101,114,109]⟩ r.pe]
def xG (m:Mk) (key:ByteArray) (args:List ByteArray) (cwd:ByteArray):List (Int×List Pr):=
 [(1300,sD m key)] ++ (if m.r.n=1 then [(1309,wG args)] else []) ++ (if m.r.n=19∧args.length=1 then [(1306,CR m (args.headD ⟨#[]⟩))] else [])
  ++ (if m.is.length=0 then [] else [(1307,CS cwd)]) ++ m.is.mapIdx (fun i p=>(1302,yX i p.1 p.2))
def dx (m:Mk):List Rc→List (Int×List Pr)→List Rc
 | L, []=>L
 | L,x :: r=>dx m (jU m L x.1 x.2) r
def evR (m:Mk) (key:ByteArray) (args:List ByteArray) (cwd:ByteArray):List Rc:=
 let L:=dx m [] (xG m key args cwd)
 if L= [] then [] else L ++ [⟨1320,m.ti,0, []⟩]
theorem fM (m:Mk):∀ (a b:List (Int×List Pr)) (L:List Rc),dx m L (a ++ b)=dx m (dx m L a) b
 | [],_,_=>rfl
 | x :: a,b,L=>fM m a b _
open Go.RowKit
theorem Dp (v:Value) (w:World):Calls Tryz.prog 220 #[.slice none 0 0,v] w fun e w' =>e= .returned (.int .i64 (-1))∧Below w.heap.size w w' :=by
 go_in;go_wp2_with fail;go_loopw [9] (fun i wr=>i= .int .i64 0∧Below w.heap.size w wr) (fun _ _=>0);case atStart=>exact ⟨rfl,Below.refl _ _⟩
 case round=>
  obtain ⟨rfl,hb⟩:=hrel;go_wp2_with fail;go_ret;exact ⟨rfl,hb⟩
attribute [-go_sem] loadVar
attribute [local go_sem] xD xE CL CO CP
attribute [local irreducible] bE
theorem Dq (li:Int) (cx:Ctx) (cr:bN) (Ai:Option Addr) (ni ci:Nat) (w:World):Calls Tryz.prog 157 #[.slice none 0 0, .int .i64 li, .slice none 0 0,qa cx cr (.slice Ai ni ci)] w fun e w' =>e= .returned (.int .i64 (-1))∧Below w.heap.size w w' :=by
 have s1:(w.alloc (.cells #[.int .i64 li] 3)).heap.size=w.heap.size+1:=by simp
 have s2:((w.alloc (.cells #[.int .i64 li] 3)).alloc (.cells #[.slice none 0 0] 203)).heap.size=w.heap.size+1+1:=by simp
 have B0:=Hd (show Below w.heap.size w (((w.alloc (.cells #[.int .i64 li] 3)).alloc (.cells #[.slice none 0 0] 203)).alloc (.cells (bE cx cr (.slice Ai ni ci)) 54)) from (((Below.refl w.heap.size w).alloc (Nat.le_refl _) _).alloc (by rw [s1];omega) _).alloc (by rw [s2];omega) _);clear s1 s2;go_in;go_upto_region 1 with fail;generalize ((w.alloc (.cells #[.int .i64 li] 3)).alloc (.cells #[.slice none 0 0] 203)).alloc (.cells (bE cx cr (.slice Ai ni ci)) 54)=W at *;go_wp2_with fail;refine (Dp _ W).mono ?_;rintro e w1 ⟨rfl,hb⟩;have B1:=Hd (aa B0.o hb);clear hb;go_wp2_with fail;go_ret;exact ⟨rfl,B1.o⟩
theorem AO (v2:Value) (cx:Ctx) (cr:bN) (Ai:Option Addr) (ni ci:Nat) (L:List Itm) (t:Int) (w:World):
  Calls Tryz.prog 94 #[.agg #[.slice none 0 0,v2],qa cx cr (.slice Ai ni ci), .int .i64 t] w fun e w' =>e= .returned (.bool (kQ [] cx cr.n L t))∧Below w.heap.size w w' :=by
 have HE:=Hd (show kQ [] cx cr.n L t=false by unfold kQ;cases nU t <;> rfl)
 rw [HE.o];have B0:=Hd (show Below w.heap.size w ((w.alloc (.cells #[.slice none 0 0,v2] 41)).alloc (.cells (bE cx cr (.slice Ai ni ci)) 54)) from ((Below.refl w.heap.size w).alloc (Nat.le_refl _) _).alloc (by simp) _);have V0:=Hd ((Blk.new w #[.slice none 0 0,v2] 41).alloc (.cells (bE cx cr (.slice Ai ni ci)) 54));have C0:=Hd (show bU ((w.alloc (.cells #[.slice none 0 0,v2] 41)).alloc (.cells (bE cx cr (.slice Ai ni ci)) 54)) (w.heap.size+1) cx cr (.slice Ai ni ci) by
  have h:=Blk.new (w.alloc (.cells #[.slice none 0 0,v2] 41)) (bE cx cr (.slice Ai ni ci)) 54;simpa using h)
 cases ht:nU t with
 | false=>
  obtain ⟨n1,n2,n3,n4,n5,n6⟩:=wE ht;clear ht;go_in;go_wp2_with fail;go_ret;exact ⟨rfl,B0.o⟩
 | true=>
  go_in;go_upto_region 1 with fail;generalize (w.alloc (.cells #[.slice none 0 0,v2] 41)).alloc (.cells (bE cx cr (.slice Ai ni ci)) 54)=W at *;have h6:=qo ht;clear ht;have c24:=C0.o.ty;have f24:=C0.o.free 24;have C1:=Hd (show bU (W.setCell ⟨w.heap.size+1,24,none⟩ (.int .i64 t)) (w.heap.size+1) { cx with ty:=t } cr (.slice Ai ni ci) by have h:=C0.o.put 24 (.int .i64 t);rw [nP] at h;exact h);have V1:=Hd (V0.o.af (.int .i64 t) (show w.heap.size≠(⟨w.heap.size+1,24,none⟩:Addr).block by simp));have B1:=Hd (B0.o.setCell (p:=⟨w.heap.size+1,24,none⟩) (by simp) (.int .i64 t));have hl:=je C1.o;have v0:=V1.o.cell 0;have vv0:=V0.o.cell 0;rcases h6 with rfl | rfl | rfl | rfl | rfl | rfl;all_goals
   go_wp2_with fail;clear hl v0 vv0 c24 f24;refine (Dq 5 _ cr Ai ni ci _).mono ?_;rintro e W2 ⟨rfl,hb⟩;have B2:=Hd (aa B1.o hb);clear hb;go_wp2_with fail;go_ret;exact ⟨rfl,B2.o⟩
end Go.Proofs.YtollifnnpihfdaaGreatDoor
