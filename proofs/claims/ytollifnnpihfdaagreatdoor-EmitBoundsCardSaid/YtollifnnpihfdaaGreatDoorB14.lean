import Derived.Test.YtollifnnpihfdaaGreatDoorB11
import Derived.Test.YtollifnnpihfdaaGreatDoorB07
import Derived.Test.YtollifnnpihfdaaGreatDoorRows
set_option maxRecDepth 100000
set_option maxHeartbeats 64000000
set_option linter.all false
namespace Go.Proofs.YtollifnnpihfdaaGreatDoor
open Go.RowKit
theorem zq {x:Nd} (h:mg x=true):x.tg.size≤128:=by
 unfold mg at h;rw [Bool.and_eq_true] at h;have h2:=h.2;split at h2
 · unfold nE at h2;simp only [Bool.and_eq_true,decide_eq_true_eq] at h2;exact h2.2
 · have:x.tg.toList= []:=(by simpa using h2);have e:=congrArg List.length this;rw [ByteArray.toList_eq,Array.length_toList] at e;show x.tg.data.size≤128;rw [e];decide
theorem j4 {w:World} {g:Nat} {x:Nd} {v:Value} (h:Blk w g 145 (ndC x v)):w.cell? ⟨g,0,none⟩=some (.int .i64 x.ino)∧w.cell? ⟨g,1,none⟩=some (.int .i64 x.kind)∧w.cell? ⟨g,2,none⟩=some (.int .i64 x.mode)∧w.cell? ⟨g,3,none⟩=some (.int .i64 x.uid)∧w.cell? ⟨g,4,none⟩=some (.int .i64 x.gid)∧w.cell? ⟨g,5,none⟩=some (.int .i64 x.par)∧w.cell? ⟨g,6,none⟩=some (.string x.tg)∧w.cell? ⟨g,7,none⟩=some v:=
 ⟨h.cell 0,h.cell 1,h.cell 2,h.cell 3,h.cell 4,h.cell 5,h.cell 6,h.cell 7⟩
theorem zt {α:Type} (x:α):∃ y, [x]= [y]:=⟨x,rfl⟩
theorem FW (dev ino:Int) (nm:ByteArray) (hm:nm.size≤1000) (x:Nd) (Ax:Option Addr) (nx cx:Nat) (hx:x.tg.size≤maxLen) (ds:List Dm) (A:Option Addr) (n c:Nat) (hn:n=ds.length) (hok:FOk (ds.map Dm.dv)) (w:World) (h:bZ w w.heap.size A ds):
  Calls Tryz.prog 168 #[fsV A n c,flV dev ino, .string nm, .agg (ndC x (.slice Ax nx cx))] w (jY (fun f' cs=>yX (ds.map Dm.dv) dev ino nm x f' ∧∃ y,cs= [y]) w):=by
 have HN:=Hd hn;have HM:=Hd hm;have HOK:=Hd hok;have HXS:=Hd hx;obtain ⟨hs,hxb⟩:=J4 w A n c ds hn dev ino h (ndC x (.slice Ax nx cx)) 145;have S0:=Hd hs;have X0:=Hd hxb;clear hs hxb h hn hok hx;have HM9:nm.size≤maxLen:=by unfold maxLen;omega
 have HM8:=Hd HM9;clear HM9 hm;go_in;go_wp2_with fail;generalize (((w.alloc (.cells #[.slice A n c] 28)).alloc (.cells #[.int .i64 dev, .int .i64 ino] 44)).alloc (.cells (ndC x (.slice Ax nx cx)) 145)).alloc (.cells #[.slice none 0 0] 28)=w0 at *;refine (jL dev ino nm HM8.o ds A n c HN.o w0 S0.o.files).mono ?_;rintro e w1 ⟨rfl,hb⟩;have S1:=Hd (S0.o.grow hb);have X1:=Hd (X0.o.below hb);clear hb;by_cases hp:aZ (ds.map Dm.dv) dev ino nm=0;case neg=>
  have HK:=Hd hp;obtain ⟨p1,p2⟩:=aM hp;clear hp;go_wp2_with ((with_reducible refine ae ?_ 28 (.tmp 8) (.tmp 30) ?_ S1.o.R #[.slice none 0 0] ?_ ?_ ?_ ?_ ?_ ?_);(iterate 4 rfl);(exact bR _);rfl;(exact bg _ _ _));refine bodyPost_ret (aL (fn:=Tryz.f168) rfl _ _ _ (.slice none 0 0) rfl (Blk.row S1.o.R _)) rfl ?_;exact S1.o.err _ HK.o
 case pos=>
 have HP0:=Hd hp;rw [hp];clear hp;have v0:=S1.o.V.cell 0;have u0:=S1.o.U.cell 0;have u1:=S1.o.U.cell 1;obtain ⟨x0,x1,x2,x3,x4,x5,x6,x7⟩:=j4 X1.o;go_wp2_with fail;clear v0 u0 u1 x0 x1 x2 x3 x4 x5 x6 x7;refine (uP x _ HXS.o w1).mono ?_;rintro e w2 ⟨rfl,hb⟩;have S2:=Hd (S1.o.grow hb);have X2:=Hd (X1.o.below hb);clear hb;cases hpl:mg x with
 | false=>
  clear hpl;go_wp2_with ((with_reducible refine ae ?_ 28 (.tmp 8) (.tmp 30) ?_ S2.o.R #[.slice none 0 0] ?_ ?_ ?_ ?_ ?_ ?_);(iterate 4 rfl);(exact bR _);rfl;(exact bg _ _ _));refine bodyPost_ret (aL (fn:=Tryz.f168) rfl _ _ _ (.slice none 0 0) rfl (Blk.row S2.o.R _)) rfl ?_;exact S2.o.err _ (by decide)
 | true=>
  have HPL:=Hd (zq hpl);clear hpl;have v0:=S2.o.V.cell 0;have u0:=S2.o.U.cell 0;have u1:=S2.o.U.cell 1;obtain ⟨x0,x1,x2,x3,x4,x5,x6,x7⟩:=j4 X2.o;go_wp2_with fail;clear v0 u0 u1 x0 x1 x2 x3 x4 x5 x6 x7;refine (fJ dev ino nm ds A n c HN.o w2 S2.o.files).mono ?_;rintro e w4 ⟨rfl,hb⟩;have S4:=Hd (S2.o.grow hb);have X4:=Hd (X2.o.below hb);clear hb;generalize hr:cB (ds.map Dm.dv) dev ino nm=rr at *;obtain ⟨ke,r1,r2⟩:=rr;by_cases hz:ke=0;case pos=>
   subst hz;have S5:=Hd (S4.o.alloc (.cells #[.int .i64 r1, .int .i64 r2] 44));go_wp2_with ((with_reducible refine ae ?_ 28 (.tmp 8) (.tmp 41) ?_ S5.o.R #[.slice none 0 0] ?_ ?_ ?_ ?_ ?_ ?_);(iterate 4 rfl);(exact bR _);rfl;(exact bg _ _ _));refine bodyPost_ret (aL (fn:=Tryz.f168) rfl _ _ _ (.slice none 0 0) rfl (Blk.row S5.o.R _)) rfl ?_;exact S5.o.err _ (by decide)
  case neg=>
  have HKE:=Hd hz;have HLK:=Hd hr;obtain ⟨p1,p4⟩:=aM hz;clear hz hr;obtain ⟨nd1,hn1,hk1,zb⟩:=bB HP0.o;obtain ⟨ki,hki⟩:=fO hn1;obtain ⟨j,hj,hkj,hdj,hxx⟩:=dR hki;clear hxx;subst hdj;have HP1:=Hd hn1;clear hn1 hk1 zb hki hkj;have S5:=Hd (S4.o.alloc (.cells #[.int .i64 r1, .int .i64 r2] 44));have X5:=Hd (X4.o.alloc (.cells #[.int .i64 r1, .int .i64 r2] 44));clear S4 X4 S2 X2 S1 X1;have j1:(j:Int) < (n:Int):=by rw [HN.o];omega
  have j2:(0:Int)≤(j:Int):=by omega
  obtain ⟨ad,hA,hab,hcx⟩:=S5.o.src.at_ j hj;subst hA;obtain ⟨s0,s1⟩:=bO (a:=ad.add (j * 2)) hcx;clear hcx;have HJD:=Hd (show fA (ds.map Dm.dv) (j:Int)=some ds[j].dv from by rw [dJ (by omega) (by rw [Int.toNat_natCast];exact hj)];rfl);have HNL:=Hd (S5.o.src.nodes ds[j] (List.getElem_mem hj)).2;go_upto_region 9 with fail;generalize w4.alloc (.cells #[.int .i64 r1, .int .i64 r2] 44)=w5 at *;clear p1 p4;have v0:=S5.o.V.cell 0;have u0:=S5.o.U.cell 0;have u1:=S5.o.U.cell 1;generalize hdd:ds[j]=d at *;have HDD:=Hd hdd;clear hdd;have S6:=Hd (S5.o.alloc (.cells (dvC d.nx (.slice d.A d.xs.length d.c)) 142));have X6:=Hd (X5.o.alloc (.cells (dvC d.nx (.slice d.A d.xs.length d.c)) 142));have D6:=Hd (Blk.new w5 (dvC d.nx (.slice d.A d.xs.length d.c)) 142);go_upto_region 10 with fail;clear v0 u0 u1;clear s0 s1;generalize w5.alloc (.cells (dvC d.nx (.slice d.A d.xs.length d.c)) 142)=w6 at *;have d0:=D6.o.cell 0;have d1:=D6.o.cell 1;by_cases h16:d.xs.length < 16;case neg=>
   have q1:(16:Int)≤(d.xs.length:Int):=(by omega);clear h16;go_wp2_with ((with_reducible refine ae ?_ 28 (.tmp 8) (.tmp 62) ?_ S6.o.R #[.slice none 0 0] ?_ ?_ ?_ ?_ ?_ ?_);(iterate 4 rfl);(exact bR _);rfl;(exact bg _ _ _));refine bodyPost_ret (aL (fn:=Tryz.f168) rfl _ _ _ (.slice none 0 0) rfl (Blk.row S6.o.R _)) rfl ?_;exact S6.o.err _ (by decide)
  case pos=>
  have H16:=Hd h16;have q1:¬ (16:Int)≤(d.xs.length:Int):=by omega
  clear h16;by_cases hnx:d.nx=1073741824;case pos=>
   have q2:=(bI hnx).1;clear hnx;go_wp2_with ((with_reducible refine ae ?_ 28 (.tmp 8) (.tmp 62) ?_ S6.o.R #[.slice none 0 0] ?_ ?_ ?_ ?_ ?_ ?_);(iterate 4 rfl);(exact bR _);rfl;(exact bg _ _ _));refine bodyPost_ret (aL (fn:=Tryz.f168) rfl _ _ _ (.slice none 0 0) rfl (Blk.row S6.o.R _)) rfl ?_;exact S6.o.err _ (by decide)
  case neg=>
  have HNX:=Hd hnx;have q2:=(aM hnx).1;clear hnx;have v0:=S6.o.V.cell 0;have u0:=S6.o.U.cell 0;have u1:=S6.o.U.cell 1;go_wp2_with fail;clear v0 u0 u1;clear d0 d1 q1 q2;refine (uU (j:Int) ino ds (some ad) n c HN.o w6 S6.o.files).mono ?_;rintro e w7 ⟨rfl,hb⟩;have S7:=Hd (S6.o.grow hb);have X7:=Hd (X6.o.below hb);have D7:=Hd (D6.o.below hb);clear hb;cases hf:kv (ds.map Dm.dv) (j:Int) ino with
  | true=>
   clear hf;go_wp2_with ((with_reducible refine ae ?_ 28 (.tmp 8) (.tmp 62) ?_ S7.o.R #[.slice none 0 0] ?_ ?_ ?_ ?_ ?_ ?_);(iterate 4 rfl);(exact bR _);rfl;(exact bg _ _ _));refine bodyPost_ret (aL (fn:=Tryz.f168) rfl _ _ _ (.slice none 0 0) rfl (Blk.row S7.o.R _)) rfl ?_;exact S7.o.err _ (by decide)
  | false=>
   have HF:=Hd hf;clear hf S5 X5 S6 X6 D6;have v0:=S7.o.V.cell 0;have u0:=S7.o.U.cell 0;have u1:=S7.o.U.cell 1;go_wp2_with fail;clear v0 u0 u1;refine (jX ds (some ad) n c HN.o w7 S7.o.files).mono ?_;rintro e w8 ⟨v8,es,rfl,ho8,he8,hb⟩;have S8:=Hd ((S7.o.grow hb));have X8:=Hd (X7.o.below hb);have D8:=Hd (D7.o.below hb);obtain ⟨A8,c8,rfl,_⟩:=ho8.at;have HR7:=Hd (show w.heap.size+1+1+1 < w7.heap.size from S7.o.R.lt);have HB7:=Hd (show w7.heap.size≤w8.heap.size from hb.size);have HE:=Hd he8;have HEL:es.length=ds.length:=(by have:=congrArg List.length he8;simpa using this);have HLN:=Hd HEL;have hje:j < es.length:=(by rw [HEL];exact hj);have HJE:=Hd (show fA (es.map Dm.dv) (j:Int)=some es[j].dv from by rw [dJ (by omega) (by rw [Int.toNat_natCast];exact hje)];rfl);have HDE:=Hd (show es[j].dv=d.dv from by have h1:=HJE.o;rw [HE.o,HJD.o] at h1;injection h1 with h1;exact h1.symm);obtain ⟨g8,Db,ES,Ki,Dc⟩:=aW ho8.own (by omega);subst Db;clear Dc HEL;have S9:=Hd (S8.o.alloc (.cells #[.slice (some ⟨g8,0,none⟩) es.length c8] 28));have X9:=Hd (X8.o.alloc (.cells #[.slice (some ⟨g8,0,none⟩) es.length c8] 28));have D9:=Hd (D8.o.alloc (.cells #[.slice (some ⟨g8,0,none⟩) es.length c8] 28));have O9:=Hd (Blk.new w8 #[.slice (some ⟨g8,0,none⟩) es.length c8] 28);have HO9:=Hd (ho8.below ((Below.refl w8.heap.size w8).alloc (Nat.le_refl _) (.cells #[.slice (some ⟨g8,0,none⟩) es.length c8] 28)));clear hb ho8 he8 S7 X7 D7 S8 X8 D8;go_upto_region 13 with fail;generalize w8.alloc (.cells #[.slice (some ⟨g8,0,none⟩) es.length c8] 28)=w9 at *;have d0:=D9.o.cell 0;have v0:=S9.o.V.cell 0;have u0:=S9.o.U.cell 0;have u1:=S9.o.U.cell 1;obtain ⟨x0,x1,x2,x3,x4,x5,x6,x7⟩:=j4 X9.o;have S10:=Hd (S9.o.alloc (.cells (ndC ⟨d.nx,x.kind,x.mode,x.uid,x.gid,0,x.tg, []⟩ (.slice none 0 0)) 145));have X10:=Hd (X9.o.alloc (.cells (ndC ⟨d.nx,x.kind,x.mode,x.uid,x.gid,0,x.tg, []⟩ (.slice none 0 0)) 145));have O10:=Hd (O9.o.alloc (.cells (ndC ⟨d.nx,x.kind,x.mode,x.uid,x.gid,0,x.tg, []⟩ (.slice none 0 0)) 145));have Y10:=Hd (Blk.new w9 (ndC ⟨d.nx,x.kind,x.mode,x.uid,x.gid,0,x.tg, []⟩ (.slice none 0 0)) 145);have Ku:=Hd (HO9.o.below ((Below.refl w9.heap.size w9).alloc (Nat.le_refl _) (.cells (ndC ⟨d.nx,x.kind,x.mode,x.uid,x.gid,0,x.tg, []⟩ (.slice none 0 0)) 145)));have HW9:=Hd (show w8.heap.size < w9.heap.size from O9.o.lt);have JD:=Hd (HO9.o.new (g:=w9.heap.size) (Nat.le_refl _));go_upto_region 14 with fail;clear d0;clear v0 u0 u1 x0 x1 x2 x3 x4 x5 x6 x7;clear S9 X9 O9 HO9 D9;generalize w9.alloc (.cells (ndC ⟨d.nx,x.kind,x.mode,x.uid,x.gid,0,x.tg, []⟩ (.slice none 0 0)) 145)=w10 at *;have v0:=S10.o.V.cell 0;have u0:=S10.o.U.cell 0;have u1:=S10.o.U.cell 1;obtain ⟨x0,x1,x2,x3,x4,x5,x6,x7⟩:=j4 X10.o;go_upto_if 80 with fail;go_cut [] (fun wx=>OpF w wx (some ad) n c ds (j:Int) ino (w.heap.size+1+1+1)∧Blk wx w8.heap.size 28 #[(.slice (some ⟨g8,0,none⟩) es.length c8)]∧Blk wx w9.heap.size 145 (ndC (iF d.dv x ino) (.slice none 0 0))∧aC wx w7.heap.size (.slice (some ⟨g8,0,none⟩) es.length c8) es);case first=>
    by_cases hkd:x.kind=2;case pos=>
      have q3:=(bI hkd).1;have y5:=Y10.o.cell 5;have yf:=Y10.o.free 5;have SA:=S10.o.keep (B:=w9.heap.size) ((Below.refl w9.heap.size w10).setCell (p:=⟨w9.heap.size,5,none⟩) (Nat.le_refl _) (.int .i64 ino)) (by have:=HR7.o;have:=HB7.o;have:=HW9.o;omega);have OA:=O10.o.af (p:=⟨w9.heap.size,5,none⟩) (.int .i64 ino) (by show w8.heap.size≠w9.heap.size;have:=HW9.o;omega);have HYN:=Hd (show iF d.dv x ino=⟨d.nx,x.kind,x.mode,x.uid,x.gid,ino,x.tg, []⟩ by unfold iF;rw [if_pos hkd];rfl);have YA:=Y10.o.put 5 (.int .i64 ino);have HOA:=Ku.o.far (av w10 w9.heap.size 5 (.int .i64 ino)) (fun q e=>by injection e with e;subst e;exact JD.o);clear hkd;have SA:=Hd SA;have OA:=Hd OA;have YA:=Hd YA;have HOA:=Hd HOA;go_wp2_with fail;go_meet;exact ⟨SA.o,OA.o,by rw [HYN.o];exact YA.o,HOA.o⟩
    case neg=>
      have q3:=(aM hkd).1;have HYN:=Hd (show iF d.dv x ino=⟨d.nx,x.kind,x.mode,x.uid,x.gid,0,x.tg, []⟩ by unfold iF;rw [if_neg hkd];rfl);clear hkd;go_wp2_with fail;go_meet;exact ⟨S10.o,O10.o,by rw [HYN.o];exact Y10.o,Ku.o⟩
   case rest=>
   obtain ⟨hS,hO,hY,hF⟩:=hcut;generalize wc=wa at *;have SA:=Hd hS;have OA:=Hd hO;have YA:=Hd hY;have HOA:=Hd hF;clear hS hO hY hF S10 X10 O10 Y10 Ku;clear v0 u0 u1 x0 x1 x2 x3 x4 x5 x6 x7;go_upto_region 16 with fail;obtain ⟨N,hN⟩:∃ N,N=iF d.dv x ino:=⟨_,rfl⟩;have HNN:=Hd hN;rw [← hN] at YA;clear hN;have hje:j < es.length:=(by rw [HLN.o];exact hj);have j3:(j:Int) < (es.length:Int):=(by omega);obtain ⟨ad8,e0,FV,Bn⟩:=aU HOA.o.own j hje;injection e0 with e0;subst e0;obtain ⟨s00,s1⟩:=bO (a:=(⟨g8,0,none⟩:Addr).add (j * 2)) Bn;rw [bP] at s1;replace s1:wa.cell? ⟨g8,j * 2+1,none⟩=some (.slice es[j].A es[j].xs.length es[j].c):=s1;clear s00 Bn FV;obtain ⟨dj,hdj⟩:∃ dj,dj=es[j]:=⟨_,rfl⟩;have HDJ:=Hd hdj;rw [← hdj] at s1;clear hdj;have HDL:=Hd (show dj.xs.length≤15 by have h1:=congrArg (fun d:Dv=>d.ns.length) HDE.o;rw [← HDJ.o] at h1;have h2:=H16.o;simp [Dm.dv] at h1;omega);have Kv:=Hd (show w7.heap.size≤wa.heap.size by have:=YA.o.lt;have:=HW9.o;have:=HB7.o;omega);have hw8:w8.heap.size < w9.heap.size:=HW9.o;have hw7:w7.heap.size≤w8.heap.size:=HB7.o;have hr7:w.heap.size+1+1+1 < w7.heap.size:=HR7.o;go_cut [] (fun wx=>∃ (A9:Option Addr) (c9:Nat),Below w7.heap.size wa wx∧aC wx w7.heap.size (.slice (some ⟨g8,0,none⟩) es.length c8) (es.set j ⟨dj.nx,dj.xs ++ [⟨N,none,0⟩],A9,c9⟩)∧Blk wx w8.heap.size 28 #[(.slice (some ⟨g8,0,none⟩) es.length c8)]∧Blk wx w9.heap.size 145 (ndC N (.slice none 0 0))∧(∀ q,(Value.slice A9 (dj.xs.length+1) c9).ownBlock=some q→q≠w9.heap.size));case first=>
    refine wp_region_held_drew (S:=(fun W=>Blk W w8.heap.size 28 #[(.slice (some ⟨g8,0,none⟩) es.length c8)]∧Blk W (w.heap.size+1) 44 #[.int .i64 (j:Int), .int .i64 ino]∧Blk W w9.heap.size 145 (ndC N (.slice none 0 0)))) (by kernel_rfl) ⟨OA.o,SA.o.U,YA.o⟩ (fun hHeld=>?_);refine tk hHeld 0 ?_ ?_ (tk hHeld 1 ?_ ?_ (tk hHeld 2 ?_ ?_ (tk hHeld 3 ?_ ?_ (tk hHeld 4 ?_ ?_ (tk hHeld 5 ?_ ?_ (tk hHeld 6 ?_ ?_ (tk hHeld 7 ?_ ?_ (tk hHeld 8 ?_ ?_ (tk hHeld 9 ?_ ?_ ?_)))))))));iterate 10
      rotate_left
      · intro W hSw;obtain ⟨z0,z1,z2⟩:=hSw;have o0:=z0.cell 0;have u0:=z1.cell 0;have u1:=z1.cell 1;go_simp;try (with_reducible rfl)
    refine tk hHeld 11 ?_ ?_ ?_;rotate_left
    · intro W hSw;obtain ⟨z0,z1,z2⟩:=hSw;obtain ⟨y0,y1,y2,y3,y4,y5,y6,y7⟩:=j4 z2;go_simp;try (with_reducible rfl)
    have HOB:=Hd (HOA.o.below ((Below.refl wa.heap.size wa).alloc (Nat.le_refl _) (.cells (ndC N (.slice none 0 0)) 145)));have RW:=Hd (aI ENd wa (ndC N (.slice none 0 0)) 145 ⟨N,none,0⟩ (show (ndC N (.slice none 0 0)).toList= [_,_,_,_,_,_,_, .slice none N.es.length 0] by rw [HNN.o];rfl) (Nat.lt_succ_self wa.heap.size));have hhB:=show Blk (wa.alloc (.cells (ndC N (.slice none 0 0)) 145)) w8.heap.size 28 #[(.slice (some ⟨g8,0,none⟩) es.length c8)]∧Blk (wa.alloc (.cells (ndC N (.slice none 0 0)) 145)) (w.heap.size+1) 44 #[.int .i64 (j:Int), .int .i64 ino]∧Blk (wa.alloc (.cells (ndC N (.slice none 0 0)) 145)) w9.heap.size 145 (ndC N (.slice none 0 0)) from ⟨OA.o.alloc _,SA.o.U.alloc _,YA.o.alloc _⟩;have s1B:=((Below.refl wa.heap.size wa).alloc (Nat.le_refl _) (.cells (ndC N (.slice none 0 0)) 145)).cell (p:=⟨g8,j * 2+1,none⟩) (show g8 < wa.heap.size from HOA.o.own.lt g8 rfl);rw [s1] at s1B;refine wpAnyH_ready (rs:= [10,12]) (by kernel_rfl) (by simp) ?_;refine AllReadyH.cons rfl (fun K hK=>?_) (AllReadyH.cons rfl (fun K hK=>?_) AllReadyH.nil);all_goals
      (first | ((go_simp);(refine hK.o _ _ ⟨OA.o,SA.o.U,YA.o⟩ (fun hHeld=>?_));(clear hK K);(refine wpAnyH_ready (rs:= [12]) (by kernel_rfl) (by simp) ?_);(refine AllReadyH.cons rfl (fun K hK=>?_) AllReadyH.nil);(go_simp);(refine hK.o _ _ hhB (fun hHeld=>?_));(clear hK K)) | ((go_simp);(refine hK.o _ _ hhB (fun hHeld=>?_));(clear hK K);(refine wpAnyH_ready (rs:= [10]) (by kernel_rfl) (by simp) ?_);(refine AllReadyH.cons rfl (fun K hK=>?_) AllReadyH.nil);(go_simp);(refine hK.o _ _ hhB (fun hHeld=>?_));(clear hK K)));refine rdy1 13 (fun K hK=>?_);refine aQ ENd (by rfl) (.tmp 94) (.tmp 96) (by rfl) w7.heap.size (.slice dj.A dj.xs.length dj.c) dj.xs (by rfl) (by have h9:=(HOB.o.nodes _ (List.getElem_mem hje)).1;rw [← HDJ.o] at h9;exact h9) (wa.heap.size+1) (some ⟨wa.heap.size,0,none⟩) 1 1 [⟨N,none,0⟩] (by rfl) (by rfl) (by exact RW.o) (by have:=HDL.o;rw [List.length_singleton];omega) (by have:=Kv.o;show w7.heap.size≤_;simp;omega) ?_;intro v6 w6b ho6 hg6 iR;have hg6:(wa.alloc (.cells (ndC N (.slice none 0 0)) 145)).grownBy w6b (Value.slice dj.A dj.xs.length dj.c).ownBlock:=⟨hg6.os,hg6.tape,hg6.output,hg6.size,hg6.block⟩;have iR:v6.ownBlock=(Value.slice dj.A dj.xs.length dj.c).ownBlock∨v6.ownBlock=some (wa.alloc (.cells (ndC N (.slice none 0 0)) 145)).heap.size:=iR;obtain ⟨A9,c9,e9,_⟩:=ho6.at;rw [show (dj.xs ++ [(⟨N,none,0⟩:Nm)]).length=dj.xs.length+1 by simp] at e9;subst e9;have hrow:∀ q,(Value.slice dj.A dj.xs.length dj.c).ownBlock=some q→(Value.slice (some ⟨g8,0,none⟩) es.length c8).ownBlock=some q∨∃ d∈es,d.sl.ownBlock=some q:=fun q e=> .inr ⟨es[j],List.getElem_mem hje,by rw [← HDJ.o];exact e⟩;have hh6:Blk w6b w8.heap.size 28 #[(.slice (some ⟨g8,0,none⟩) es.length c8)]∧Blk w6b (w.heap.size+1) 44 #[.int .i64 (j:Int), .int .i64 ino]∧Blk w6b w9.heap.size 145 (ndC N (.slice none 0 0)):=⟨HOB.o.spare hg6 hrow hhB.1 (by decide) (by decide),HOB.o.spare hg6 hrow hhB.2.1 (by decide) (by decide),hhB.2.2.grown hg6 (fun e=>JD.o.2.1 es[j] (List.getElem_mem hje) (by rw [← HDJ.o];exact e))⟩;have hv6:ax EDv w6b w7.heap.size (.slice (some ⟨g8,0,none⟩) es.length c8) es:=HOB.o.own.far hg6 (fun q e r=>aB HOB.o.own (HOB.o.nodes _ (List.getElem_mem hje)).1 (show (142:Nat)≠145 by decide) q e (by rw [← HDJ.o];exact r));obtain ⟨ad9,e0,Kw,FX⟩:=aU hv6 j hje;injection e0 with e0;subst e0;obtain ⟨s00,s16⟩:=bO (a:=(⟨g8,0,none⟩:Addr).add (j * 2)) FX;rw [bP, ← HDJ.o] at s16;replace s16:w6b.cell? ⟨g8,j * 2+1,none⟩=some (.slice dj.A dj.xs.length dj.c):=s16;have sf6:=hv6.free (j * 2+1);have HFS:=Hd (HOB.o.addN hje HDJ.o (by simp) ho6 hg6 iR (by have:=HDL.o;omega) ⟨by show N.es= [];rw [HNN.o];rfl,rfl,rfl⟩ (by show jg N;rw [HNN.o];exact ⟨Nat.zero_le _,by show x.tg.size≤1000;have:=HPL.o;omega,fun e he=>by cases he⟩));have HLW:=Hd (show Below w7.heap.size wa (w6b.setCell ⟨g8,j * 2+1,none⟩ (.slice A9 (dj.xs.length+1) c9)) from (((Below.refl w7.heap.size wa).alloc Kv.o (.cells (ndC N (.slice none 0 0)) 145)).grown hg6 (by have:=Kv.o;simp;omega) (fun q e=>(HOB.o.nodes _ (List.getElem_mem hje)).1.ge q (by rw [← HDJ.o];exact e))).setCell (p:=⟨g8,j * 2+1,none⟩) (by exact ES) _);have hh7:∀ u:Value,Blk (w6b.setCell ⟨g8,j * 2+1,none⟩ u) w8.heap.size 28 #[(.slice (some ⟨g8,0,none⟩) es.length c8)]∧Blk (w6b.setCell ⟨g8,j * 2+1,none⟩ u) (w.heap.size+1) 44 #[.int .i64 (j:Int), .int .i64 ino]∧Blk (w6b.setCell ⟨g8,j * 2+1,none⟩ u) w9.heap.size 145 (ndC N (.slice none 0 0)):=fun u=>⟨hh6.1.af _ (by show w8.heap.size≠g8;omega),hh6.2.1.af _ (by show w.heap.size+1≠g8;omega),hh6.2.2.af _ (by show w9.heap.size≠g8;omega)⟩;have HAY:=Hd (show ∀ q,(Value.slice A9 (dj.xs.length+1) c9).ownBlock=some q→q≠w9.heap.size from fun q e e2=>by
        subst e2;rcases iR with h | h
        · exact JD.o.2.1 es[j] (List.getElem_mem hje) (by rw [← HDJ.o, ← e,h])
        · rw [h] at e;injection e with e;simp only [World.size_alloc] at e;have:=YA.o.lt;omega)
      clear hg6 iR ho6 hv6 FX Kw s00 hrow;refine hK.o _ _ hh6 (fun hHeld=>?_);clear hK K;refine tk hHeld 14 ?_ ?_ (tk hHeld 15 ?_ ?_ ?_);iterate 2
        rotate_left
        · intro W hSw;go_simp;try (with_reducible rfl)
      refine rdy1 16 (fun K hK=>?_);go_simp;refine hK.o _ _ (hh7 _) (fun hHeld=>?_);clear hK K;refine wpAnyH_done (by kernel_rfl) ?_ _;go_wp2_with fail;go_meet;exact ⟨A9,c9,HLW.o,HFS.o,(hh7 _).1,(hh7 _).2.2,HAY.o⟩
   case rest=>
    obtain ⟨A9,c9,hlow,hfs,hob,hyb,hay⟩:=hcut;have HAY:=Hd hay;clear hay;have SB:=Hd (SA.o.keep hlow hr7);clear SA OA YA HOA s1;have HL1:=Hd (show (es.set j (⟨dj.nx,dj.xs ++ [(⟨N,none,0⟩:Nm)],A9,c9⟩:Dm)).length=es.length from List.length_set ..);have hj1:j < (es.set j (⟨dj.nx,dj.xs ++ [(⟨N,none,0⟩:Nm)],A9,c9⟩:Dm)).length:=(by rw [HL1.o];exact hje);have hg1:(es.set j (⟨dj.nx,dj.xs ++ [(⟨N,none,0⟩:Nm)],A9,c9⟩:Dm))[j]=(⟨dj.nx,dj.xs ++ [(⟨N,none,0⟩:Nm)],A9,c9⟩:Dm):=List.getElem_set_self ..  ;obtain ⟨ad9,e0,Kw,FX⟩:=aU hfs.own j hj1;injection e0 with e0;subst e0;obtain ⟨s0,s00⟩:=bO (a:=(⟨g8,0,none⟩:Addr).add (j * 2)) FX;rw [bP,hg1] at s0;replace s0:wc.cell? ⟨g8,j * 2,none⟩=some (.int .i64 dj.nx):=s0;have sf:wc.frozen? ⟨g8,j * 2,none⟩=false:=hfs.own.free (j * 2);have Ky:=hfs.nodes _ (List.getElem_mem hj1);have Kz:=hfs.cu _ (List.getElem_mem hj1);rw [hg1] at Ky Kz;have Ga:=hfs.Mg (i:=0) (u:= .int .i64 (dj.nx+1)) (d' :=(⟨dj.nx+1,dj.xs ++ [(⟨N,none,0⟩:Nm)],A9,c9⟩:Dm)) hj1 (by omega) (by rw [hg1];rfl) Ky Kz (fun k hk hkj q e=>by have h9:=hfs.other hk hj1 hkj e;rw [hg1] at h9;exact h9);rw [List.set_set] at Ga;replace Ga:aC (wc.setCell ⟨g8,j * 2,none⟩ (.int .i64 (dj.nx+1))) w7.heap.size (.slice (some ⟨g8,0,none⟩) es.length c8) (es.set j (⟨dj.nx+1,dj.xs ++ [(⟨N,none,0⟩:Nm)],A9,c9⟩:Dm)):=Ga;have HM2:=Hd (show (es.set j (⟨dj.nx+1,dj.xs ++ [(⟨N,none,0⟩:Nm)],A9,c9⟩:Dm)).map Dm.dv=mf (ds.map Dm.dv) j (fun d=>⟨d.nx+1,d.ns ++ [iF d x ino]⟩) from by
      rw [jE es j hje (⟨dj.nx+1,dj.xs ++ [(⟨N,none,0⟩:Nm)],A9,c9⟩:Dm) (fun d=>⟨d.nx+1,d.ns ++ [iF d x ino]⟩) (by rw [← HDJ.o];have h9:=HDE.o;rw [← HDJ.o] at h9;rw [h9];show (⟨dj.nx+1,(dj.xs ++ [(⟨N,none,0⟩:Nm)]).map (·.nd)⟩:Dv)=_;rw [List.map_append,HNN.o];have h8:=congrArg Dv.nx h9;have h7:=congrArg Dv.ns h9;simp only [Dm.dv] at h8 h7 ⊢;rw [h8,h7];rfl),HE.o])
    have Mw:=Hd (show dj.nx=d.nx by have h9:=congrArg Dv.nx HDE.o;rw [← HDJ.o] at h9;exact h9);have HDM:=Hd (show DOk NoZ d.dv from HOK.o.2.2 _ (bz HJD.o));have wx1:IntKind.i64.wrap (dj.nx+1)=dj.nx+1:=IntWalk.i64_in _ (by have h1:=HDM.o.nx2;have h2:=HDM.o.nxm;have h3:=Mw.o;simp only [Dm.dv] at h1 h2;omega);have wx2:wrap64 (dj.nx+1)=dj.nx+1:=IntWalk.wrap64_in _ (by have h1:=HDM.o.nx2;have h2:=HDM.o.nxm;have h3:=Mw.o;simp only [Dm.dv] at h1 h2;omega);have SC:=Hd (SB.o.keep (B:=w7.heap.size) ((Below.refl _ wc).setCell (p:=⟨g8,j * 2,none⟩) (by exact ES) (.int .i64 (dj.nx+1))) hr7);have OC:=Hd (hob.af (p:=⟨g8,j * 2,none⟩) (.int .i64 (dj.nx+1)) (by show w8.heap.size≠g8;omega));have YC:=Hd (hyb.af (p:=⟨g8,j * 2,none⟩) (.int .i64 (dj.nx+1)) (by show w9.heap.size≠g8;omega));have KA:=Hd Ga;have NL:=Hd (show w7.heap.size≤(wc.setCell ⟨g8,j * 2,none⟩ (.int .i64 (dj.nx+1))).heap.size by have:=OC.o.lt;omega);have o0:=hob.cell 0;have u0:=SB.o.U.cell 0;clear Ga hfs hob hyb hlow Ky Kz FX s00 Kw hg1 hj1;go_upto_region 18 with fail;clear o0 u0 s0 sf wx1 wx2 SB;generalize wc.setCell ⟨g8,j * 2,none⟩ (.int .i64 (dj.nx+1))=w11 at *;have o0:=OC.o.cell 0;have u0:=SC.o.U.cell 0;have u1:=SC.o.U.cell 1;have y0:=YC.o.cell 0;have HDV:=Hd (show fA ((es.set j (⟨dj.nx+1,dj.xs ++ [(⟨N,none,0⟩:Nm)],A9,c9⟩:Dm)).map Dm.dv) (j:Int)=some ⟨d.nx+1,d.dv.ns ++ [iF d.dv x ino]⟩ from by rw [HM2.o,show mf (ds.map Dm.dv) j _=mf (ds.map Dm.dv) ((j:Int).toNat) _ from rfl,dU HJD.o];exact bA HJD.o _);have hp1:=HP1.o;obtain ⟨d3,hd3,hm3,hi3⟩:=aG hp1;rw [HJD.o] at hd3;injection hd3 with hd3;subst hd3;obtain ⟨k4,hk4,_⟩:=fH HDV.o (List.mem_append_left _ hm3) hi3;have HK4:=Hd hk4;clear hk4 hp1 hi3;go_wp2_with fail;refine (jM (j:Int) ino nm HM.o N.ino (es.set j (⟨dj.nx+1,dj.xs ++ [(⟨N,none,0⟩:Nm)],A9,c9⟩:Dm)) (some ⟨g8,0,none⟩) es.length c8 (by rw [List.length_set]) w7.heap.size w11 KA.o NL.o k4 HK4.o (fun nd hnd=>by
      obtain ⟨d5,hd5,hm5,_⟩:=aG hnd;rw [HDV.o] at hd5;injection hd5 with hd5;subst hd5;rcases List.mem_append.1 hm5 with hm5 | hm5
      · have:=(HDM.o.cu nd hm5).1;omega
      · rw [List.mem_singleton.1 hm5];exact Nat.zero_le _)).mono ?_
    rintro e w99 ⟨ds9,rfl,ho9,he9,hl9,hb9,ze,hg9,hr9⟩;have S9:=Hd (SC.o.keep hb9 hr7);have O9:=Hd (KA.o.spare hg9 hr9 OC.o (by decide) (by decide));have HNY:=Hd (show (∀ q,ze=some q→q≠w9.heap.size) from fun q e e2=>by
      subst e2;rcases hr9 _ e with h | ⟨dd,hdd,h⟩
      · have h2:g8=w9.heap.size:=(by injection h);omega
      · rcases iA hdd with h2 | h2
        · rw [h2] at h;exact HAY.o _ (by have h3:(Value.slice A9 (dj.xs ++ [(⟨N,none,0⟩:Nm)]).length c9).ownBlock=some w9.heap.size:=h;simpa using h3) rfl
        · exact JD.o.2.1 dd h2 h)
    have Y9:=Hd (YC.o.grown hg9 (fun e=>HNY.o _ e rfl));have HO9:=Hd ho9;have HE9:=Hd he9;have HR6:=HR7;clear ho9 hb9 hg9 hr9 he9 SC OC YC KA o0 u0 u1 y0;have PO:=hw7;go_upto_region 19 with fail;refine wp_region_held_drew (S:=(fun W=>Blk W (w.heap.size+1) 44 #[.int .i64 (j:Int), .int .i64 ino]∧Blk W (w9.heap.size) 145 (ndC N (.slice none 0 0))∧Blk W (w8.heap.size) 28 #[(.slice (some ⟨g8,0,none⟩) es.length c8)])) (by kernel_rfl) ⟨S9.o.U,Y9.o,O9.o⟩ (fun hHeld=>?_);refine tk hHeld 0 ?_ ?_ (tk hHeld 1 ?_ ?_ (tk hHeld 2 ?_ ?_ (tk hHeld 3 ?_ ?_ (tk hHeld 4 ?_ ?_ (tk hHeld 5 ?_ ?_ (tk hHeld 6 ?_ ?_ (tk hHeld 7 ?_ ?_ (tk hHeld 8 ?_ ?_ ?_))))))));iterate 9
      rotate_left
      · intro W hSw;obtain ⟨y0,y1,y2⟩:=hSw;have J6:=y0.cell 0;have J7:=y0.cell 1;have J8:=y1.cell 0;have J9:=y1.cell 1;have PQ:=y1.cell 2;have PR:=y1.cell 3;have PS:=y1.cell 4;have PT:=y1.cell 5;have PU:=y1.cell 6;have PV:=y1.cell 7;have Ka:=y2.cell 0;have PW:=y2.cell 1;have PX:=y2.cell 2;go_simp;try (with_reducible rfl)
    refine rdy1 9 (fun K hK=>?_);go_simp;go_at_call 229;refine (tC ⟨(j:Int),ino,nm,0,0,(j:Int),N.ino⟩ _).mono ?_;rintro e wz ⟨vz,rfl,hov,hbz⟩;have hbz:Below w99.heap.size w99 wz:=aa (Below.refl w99.heap.size w99).drew hbz;have hov:ax lN wz w99.heap.size vz [⟨(j:Int),ino,nm,0,0,(j:Int),N.ino⟩]:=hov;have hh:Blk wz (w.heap.size+1) 44 #[.int .i64 (j:Int), .int .i64 ino]∧Blk wz (w9.heap.size) 145 (ndC N (.slice none 0 0))∧Blk wz (w8.heap.size) 28 #[(.slice (some ⟨g8,0,none⟩) es.length c8)]:=⟨S9.o.U.below hbz,Y9.o.below hbz,O9.o.below hbz⟩;have RZ:=Hd (S9.o.R.below hbz);have HOV:=Hd hov;have HBZ:=Hd hbz;clear hbz hov;go_simp;refine hK.o _ _ hh (fun hHeld=>?_);clear hK K;have r0:=RZ.o.cell 0;have rf:=RZ.o.free 0;have hh2:∀ u:Value,Blk (wz.setCell ⟨(w.heap.size+1+1+1),0,none⟩ u) (w.heap.size+1) 44 #[.int .i64 (j:Int), .int .i64 ino]∧Blk (wz.setCell ⟨(w.heap.size+1+1+1),0,none⟩ u) (w9.heap.size) 145 (ndC N (.slice none 0 0))∧Blk (wz.setCell ⟨(w.heap.size+1+1+1),0,none⟩ u) (w8.heap.size) 28 #[(.slice (some ⟨g8,0,none⟩) es.length c8)]:=fun u=>⟨hh.1.af _ (by show _≠(w.heap.size+1+1+1);omega),hh.2.1.af _ (by show _≠(w.heap.size+1+1+1);omega),hh.2.2.af _ (by show _≠(w.heap.size+1+1+1);omega)⟩;refine rdy1 10 (fun K hK=>?_);go_simp;refine hK.o _ _ (hh2 _) (fun hHeld=>?_);clear hK K;clear hh2 hh r0 rf;refine tk hHeld 11 ?_ ?_ (tk hHeld 12 ?_ ?_ ?_);iterate 2
      rotate_left
      · intro W hSw;go_simp;try (with_reducible rfl)
    refine wpAnyH_done (by kernel_rfl) ?_ _;go_wp2_with fail;refine bodyPost_ret (aL (fn:=Tryz.f168) rfl _ _ (w.heap.size+1+1+1) (.slice (some ⟨g8,0,none⟩) es.length c8) rfl (RZ.o.put 0 _)) rfl ?_;have hof:=(HO9.o.below HBZ.o).far (av wz ((w.heap.size+1+1+1)) 0 (.slice (some ⟨g8,0,none⟩) es.length c8)) (fun q e=>by injection e with e;subst e;exact (HO9.o.below HBZ.o).old (by have:=HR6.o;omega));refine ⟨(S9.o.low.trans (HBZ.o.mono S9.o.low.size)).setCell (p:=⟨(w.heap.size+1+1+1),0,none⟩) (by show w.heap.size≤(w.heap.size+1+1+1);omega) _, .inr ⟨(some ⟨g8,0,none⟩),es.length,c8,ds9,vz, [⟨(j:Int),ino,nm,0,0,(j:Int),N.ino⟩],hof.uy.2,rfl,hof.low (by have:=HR6.o;omega),(HOV.o.bH (g:=(w.heap.size+1+1+1)) (i:=0) (fun e=>by have:=HOV.o.ge _ e;have:=S9.o.R.lt;omega) _).low S9.o.low.size,⟨⟨HP0.o,HPL.o,by rw [HLK.o];exact HKE.o,HF.o,d.dv,HJD.o,by have:=H16.o;simp [Dm.dv];exact this,HNX.o,by rw [HE9.o,HM2.o,HNN.o];rfl⟩,zt _⟩⟩⟩
structure lC where
 name:ByteArray
 nums:Nat
 lJ:Nat
 least:Nat
 most:Nat
def om:List lC:= [
 ⟨⟨#[102,111,114,107]⟩,0,0,0,0⟩,
 ⟨⟨#[101,120,101,99,118,101]⟩,0,1,0,4⟩,
 ⟨⟨#[101,120,105,116]⟩,1,0,0,0⟩,
 ⟨⟨#[115,101,116,117,105,100]⟩,1,0,0,0⟩,
 ⟨⟨#[115,101,116,103,105,100]⟩,1,0,0,0⟩,
 ⟨⟨#[108,111,103,105,110]⟩,1,0,0,0⟩,
 ⟨⟨#[111,112,101,110]⟩,2,1,0,0⟩,
 ⟨⟨#[99,108,111,115,101]⟩,1,0,0,0⟩,
 ⟨⟨#[108,105,110,107]⟩,0,2,0,0⟩,
 ⟨⟨#[115,121,109,108,105,110,107]⟩,0,1,1,1⟩,
 ⟨⟨#[117,110,108,105,110,107]⟩,0,1,0,0⟩,
 ⟨⟨#[109,107,100,105,114]⟩,1,1,0,0⟩,
 ⟨⟨#[114,109,100,105,114]⟩,0,1,0,0⟩,
 ⟨⟨#[114,101,110,97,109,101]⟩,0,2,0,0⟩,
 ⟨⟨#[99,104,109,111,100]⟩,1,1,0,0⟩,
 ⟨⟨#[99,104,111,119,110]⟩,2,1,0,0⟩,
 ⟨⟨#[99,104,100,105,114]⟩,0,1,0,0⟩,
 ⟨⟨#[109,111,117,110,116]⟩,1,1,0,0⟩,
 ⟨⟨#[117,109,111,117,110,116]⟩,1,0,0,0⟩,
 ⟨⟨#[99,111,110,110,101,99,116]⟩,1,0,1,1⟩,
 ⟨⟨#[107,105,108,108]⟩,2,0,0,0⟩,
 ⟨⟨#[116,114,117,110,99,97,116,101]⟩,1,1,0,0⟩]
def lC.cells (k:IntKind) (r:lC):List Value:= [.string r.name, .int k r.nums, .int k r.lJ, .int k r.least, .int k r.most]
def lC.val (k:IntKind) (r:lC):Value:= .agg #[.string r.name, .int k r.nums, .int k r.lJ, .int k r.least, .int k r.most]
def eO (n:Nat):lC:=om.getD n ⟨⟨#[]⟩,0,0,0,0⟩
def dE (z:Int):lC:=if z < 0 then ⟨⟨#[]⟩,0,0,0,0⟩ else eO z.toNat
def cZ (k:IntKind):Array Value:=((om.map (lC.cells k)).flatten).toArray
theorem qa (k:IntKind) (n:Nat) (h:n < 22):(cZ k)[n * 5]? =some (.string (eO n).name)∧(cZ k)[n * 5+1]? =some (.int k (eO n).nums)∧(cZ k)[n * 5+2]? =some (.int k (eO n).lJ)∧(cZ k)[n * 5+3]? =some (.int k (eO n).least)∧(cZ k)[n * 5+4]? =some (.int k (eO n).most):=by
 have H:∀ m:Fin 22,(cZ k)[m.val * 5]? =some (.string (eO m).name)∧(cZ k)[m.val * 5+1]? =some (.int k (eO m).nums)∧(cZ k)[m.val * 5+2]? =some (.int k (eO m).lJ)∧(cZ k)[m.val * 5+3]? =some (.int k (eO m).least)∧(cZ k)[m.val * 5+4]? =some (.int k (eO m).most):=by
  intro m
  match m with
  | ⟨0,_⟩=>exact ⟨rfl,rfl,rfl,rfl,rfl⟩
  | ⟨1,_⟩=>exact ⟨rfl,rfl,rfl,rfl,rfl⟩
  | ⟨2,_⟩=>exact ⟨rfl,rfl,rfl,rfl,rfl⟩
  | ⟨3,_⟩=>exact ⟨rfl,rfl,rfl,rfl,rfl⟩
  | ⟨4,_⟩=>exact ⟨rfl,rfl,rfl,rfl,rfl⟩
  | ⟨5,_⟩=>exact ⟨rfl,rfl,rfl,rfl,rfl⟩
  | ⟨6,_⟩=>exact ⟨rfl,rfl,rfl,rfl,rfl⟩
  | ⟨7,_⟩=>exact ⟨rfl,rfl,rfl,rfl,rfl⟩
  | ⟨8,_⟩=>exact ⟨rfl,rfl,rfl,rfl,rfl⟩
  | ⟨9,_⟩=>exact ⟨rfl,rfl,rfl,rfl,rfl⟩
  | ⟨10,_⟩=>exact ⟨rfl,rfl,rfl,rfl,rfl⟩
  | ⟨11,_⟩=>exact ⟨rfl,rfl,rfl,rfl,rfl⟩
  | ⟨12,_⟩=>exact ⟨rfl,rfl,rfl,rfl,rfl⟩
  | ⟨13,_⟩=>exact ⟨rfl,rfl,rfl,rfl,rfl⟩
  | ⟨14,_⟩=>exact ⟨rfl,rfl,rfl,rfl,rfl⟩
  | ⟨15,_⟩=>exact ⟨rfl,rfl,rfl,rfl,rfl⟩
  | ⟨16,_⟩=>exact ⟨rfl,rfl,rfl,rfl,rfl⟩
  | ⟨17,_⟩=>exact ⟨rfl,rfl,rfl,rfl,rfl⟩
  | ⟨18,_⟩=>exact ⟨rfl,rfl,rfl,rfl,rfl⟩
  | ⟨19,_⟩=>exact ⟨rfl,rfl,rfl,rfl,rfl⟩
  | ⟨20,_⟩=>exact ⟨rfl,rfl,rfl,rfl,rfl⟩
  | ⟨21,_⟩=>exact ⟨rfl,rfl,rfl,rfl,rfl⟩
  | ⟨m+22,h⟩=>omega
 exact H ⟨n,h⟩
theorem mV (n:Nat):(eO n).nums≤2∧(eO n).lJ≤2∧(eO n).least≤1∧(eO n).most≤4∧(eO n).name.size≤8:=by
 by_cases h:n < 22
 · have H:∀ m:Fin 22,(eO m).nums≤2∧(eO m).lJ≤2∧(eO m).least≤1∧(eO m).most≤4∧(eO m).name.size≤8:=(by decide+kernel);exact H ⟨n,h⟩
 · have:eO n=⟨⟨#[]⟩,0,0,0,0⟩:=by
    unfold eO;rw [List.getD_eq_getElem?_getD,List.getElem?_eq_none (by show 22≤n;omega)];rfl
   rw [this];decide
def Calls10 (w:World):Prop:=qK w 2 (cZ .u8)
theorem Calls10.below {B:Nat} {w w' :World} (h:Calls10 w) (hb:Below B w w') (hB:w.heap.size≤B):Calls10 w' :=qK.below h hb hB
def eQ (z:Int):Bool:=decide (0≤z) && decide (z < 22)
attribute [local irreducible] eO cZ
theorem wZ (z:Int) (w:World):Calls Tryz.prog 155 #[.int .i64 z] w fun e w' =>e= .returned (.bool (eQ z))∧w=w' :=by
 by_cases h0:0≤z
 · by_cases h1:z < 22
   · have H:=Hd (show eQ z=true by unfold eQ;simp [h0,h1]);go_in
     go_wp2
     go_ret;exact ⟨by rw [H.o];rfl,rfl⟩
   · have H:=Hd (show eQ z=false by unfold eQ;simp;omega);go_in
     go_wp2
     go_ret;exact ⟨by rw [H.o];rfl,rfl⟩
 · have H:=Hd (show eQ z=false by unfold eQ;simp;omega);go_in
   go_wp2
   go_ret;exact ⟨by rw [H.o];rfl,rfl⟩
theorem KS (n:Nat) (hn:n < 22) (w:World) (hc:Calls10 w):Calls Tryz.prog 92 #[.int .i64 (n:Int)] w fun e w' =>e= .returned (.string (eO n).name)∧w=w' :=by
 have hx:eQ (n:Int)=true:=by unfold eQ;simp;omega
 have HX:=Hd hx;have c0:=(hc.cell (n * 5)).trans (qa .u8 n hn).1;clear hc hx;go_in;go_wp2_with fail;refine (wZ _ _).mono ?_;rintro e w' ⟨rfl,rfl⟩;rw [HX.o];go_wp2_with fail;go_ret;exact ⟨rfl,rfl⟩
theorem xg (z:Int) (hz:z < 0∨22≤z) (w:World):Calls Tryz.prog 92 #[.int .i64 z] w fun e w' =>e= .returned (.string ⟨#[]⟩)∧w=w' :=by
 have HX:=Hd (show eQ z=false by unfold eQ;simp;omega);clear hz;go_in;go_wp2_with fail;refine (wZ _ _).mono ?_;rintro e w' ⟨rfl,rfl⟩;rw [HX.o];go_wp2_with fail;go_ret;exact ⟨rfl,rfl⟩
end Go.Proofs.YtollifnnpihfdaaGreatDoor
namespace Go.Proofs.YtollifnnpihfdaaGreatDoor
open Go.RowKit
theorem tQ:cZ .i64=#[.string ⟨#[102,111,114,107]⟩, .int .i64 0, .int .i64 0, .int .i64 0, .int .i64 0, .string ⟨#[101,120,101,99,118,101]⟩, .int .i64 0, .int .i64 1, .int .i64 0, .int .i64 4, .string ⟨#[101,120,105,116]⟩, .int .i64 1, .int .i64 0, .int .i64 0, .int .i64 0, .string ⟨#[115,101,116,117,105,100]⟩, .int .i64 1, .int .i64 0, .int .i64 0, .int .i64 0, .string ⟨#[115,101,116,103,105,100]⟩, .int .i64 1, .int .i64 0, .int .i64 0, .int .i64 0, .string ⟨#[108,111,103,105,110]⟩, .int .i64 1, .int .i64 0, .int .i64 0, .int .i64 0, .string ⟨#[111,112,101,110]⟩, .int .i64 2, .int .i64 1, .int .i64 0, .int .i64 0, .string ⟨#[99,108,111,115,101]⟩, .int .i64 1, .int .i64 0, .int .i64 0, .int .i64 0, .string ⟨#[108,105,110,107]⟩, .int .i64 0, .int .i64 2, .int .i64 0, .int .i64 0, .string ⟨#[115,121,109,108,105,110,107]⟩, .int .i64 0, .int .i64 1, .int .i64 1, .int .i64 1, .string ⟨#[117,110,108,105,110,107]⟩, .int .i64 0, .int .i64 1, .int .i64 0, .int .i64 0, .string ⟨#[109,107,100,105,114]⟩, .int .i64 1, .int .i64 1, .int .i64 0, .int .i64 0, .string ⟨#[114,109,100,105,114]⟩, .int .i64 0, .int .i64 1, .int .i64 0, .int .i64 0, .string ⟨#[114,101,110,97,109,101]⟩, .int .i64 0, .int .i64 2, .int .i64 0, .int .i64 0, .string ⟨#[99,104,109,111,100]⟩, .int .i64 1, .int .i64 1, .int .i64 0, .int .i64 0, .string ⟨#[99,104,111,119,110]⟩, .int .i64 2, .int .i64 1, .int .i64 0, .int .i64 0, .string ⟨#[99,104,100,105,114]⟩, .int .i64 0, .int .i64 1, .int .i64 0, .int .i64 0, .string ⟨#[109,111,117,110,116]⟩, .int .i64 1, .int .i64 1, .int .i64 0, .int .i64 0, .string ⟨#[117,109,111,117,110,116]⟩, .int .i64 1, .int .i64 0, .int .i64 0, .int .i64 0, .string ⟨#[99,111,110,110,101,99,116]⟩, .int .i64 1, .int .i64 0, .int .i64 1, .int .i64 1, .string ⟨#[107,105,108,108]⟩, .int .i64 2, .int .i64 0, .int .i64 0, .int .i64 0, .string ⟨#[116,114,117,110,99,97,116,101]⟩, .int .i64 1, .int .i64 1, .int .i64 0, .int .i64 0]:=rfl
attribute [local irreducible] cZ eO
theorem BF (w:World):Calls Tryz.prog 110 #[] w fun e w' =>e= .returned (.slice (some ⟨w.heap.size,0,none⟩) 22 22)∧qK w' w.heap.size (cZ .i64)∧Below w.heap.size w w' :=by
 go_in
 go_wp2
 go_ret;exact ⟨rfl,⟨147,(0,0),(heap_alloc_new w _).trans (congrArg (fun c=>some (Obj.cells c 147 (0,0))) tQ.symm)⟩,(Below.refl _ _).alloc (Nat.le_refl _) _⟩
end Go.Proofs.YtollifnnpihfdaaGreatDoor
namespace Go.Proofs.YtollifnnpihfdaaGreatDoor
open Go.RowKit
theorem qb {fn:Func} {a b c d:Tmp} (h:fn.results=#[.tmp a, .tmp b, .tmp c, .tmp d]) (tmps:Array Value) (P:Program) (w:World):
  (results fn tmps).run P w= .ok (.tuple #[tmps.getD a undef,tmps.getD b undef,tmps.getD c undef,tmps.getD d undef]) w:=by
 simp [results,h]
attribute [local irreducible] eO cZ
theorem BG (w:World):Calls Tryz.prog 109 #[] w fun e w' =>e= .returned (.int .i64 22)∧Below w.heap.size w w' :=by
 go_in;go_wp2_with fail;refine (BF _).mono ?_;rintro e w1 ⟨rfl,_,hb⟩;go_wp2_with fail;go_ret;exact ⟨rfl,hb⟩
end Go.Proofs.YtollifnnpihfdaaGreatDoor
namespace Go.Proofs.YtollifnnpihfdaaGreatDoor
open Go.RowKit
attribute [local irreducible] eO cZ
theorem zL:(Tryz.prog.info? 147).map (·.size)=some 5:=by kernel_rfl
theorem sJ (w:World) (g:Nat) (t:TypeId) (cs:Array Value) (tmps:Array Value) (hp:tmps.getD 2 undef= .pointer (some ⟨g,0,none⟩)) (h:Blk w g t cs) (h5:cs.size=5):
  (results Tryz.f63 tmps).run Tryz.prog w= .ok (.agg cs) w:=
 results_cell_row (p:=2) (ty:=147) rfl tmps w g t cs (0,0) _ hp h Tryz.underlying147 rfl (by rw [h5];exact zL)
theorem zM (z:Int) (hz:z < 0) (w:World):Calls Tryz.prog 63 #[.int .i64 z] w fun e w' =>e= .returned (lC.val .i64 ⟨⟨#[]⟩,0,0,0,0⟩)∧Below w.heap.size w w' :=by
 go_in;go_wp2_with fail;refine bodyPost_ret (v:=lC.val .i64 ⟨⟨#[]⟩,0,0,0,0⟩) ?_ rfl ?_
 · simp [results,Tryz.results63,go_sem,lC.val]
 · exact ⟨rfl,(Below.refl _ _).alloc (Nat.le_refl _) _⟩
theorem tT (z:Int) (hz:22≤z) (w:World):Calls Tryz.prog 63 #[.int .i64 z] w fun e w' =>e= .returned (lC.val .i64 ⟨⟨#[]⟩,0,0,0,0⟩)∧Below w.heap.size w w' :=by
 go_in;go_wp2_with fail;refine (BG _).mono ?_;rintro e w1 ⟨rfl,hb⟩;have HG:Blk w1 w.heap.size 147 _:=(Blk.new w _ _).keep (boxed hb) (by omega);have q0:=HG.cell 0;have f0:=HG.free 0;have q1:=HG.cell 1;have f1:=HG.free 1;have q2:=HG.cell 2;have f2:=HG.free 2;have q3:=HG.cell 3;have f3:=HG.free 3;have q4:=HG.cell 4;have f4:=HG.free 4;go_wp2_with fail;refine bodyPost_ret (sJ _ _ _ _ _ rfl (((((HG.put 0 _).put 1 _).put 2 _).put 3 _).put 4 _) rfl) rfl ?_;exact ⟨rfl,(((((oZ hb).setCell (Nat.le_refl _) _).setCell (Nat.le_refl _) _).setCell (Nat.le_refl _) _).setCell (Nat.le_refl _) _).setCell (Nat.le_refl _) _⟩
theorem Dt (n:Nat) (hn:n < 22) (w:World):Calls Tryz.prog 63 #[.int .i64 (n:Int)] w fun e w' =>e= .returned (lC.val .i64 (eO n))∧Below w.heap.size w w' :=by
 obtain ⟨k0,k1,k2,k3,k4⟩:=qa .i64 n hn;go_in;go_wp2_with fail;refine (BG _).mono ?_;rintro e w1 ⟨rfl,hb⟩;have HH:=Hd (show Blk w1 w.heap.size 147 _ from (Blk.new w _ _).keep (boxed hb) (by omega));have HB:=Hd (oZ hb);clear hb;go_wp2_with fail;refine (BF _).mono ?_;rintro e w2 ⟨rfl,hg,hb2⟩;have HG:=HH.o.below hb2;have HB2:=Hd (HB.o.trans (hb2.mono HB.o.size));have c0:=(hg.cell (n * 5)).trans k0;have c1:=(hg.cell (n * 5+1)).trans k1;have c2:=(hg.cell (n * 5+2)).trans k2;have c3:=(hg.cell (n * 5+3)).trans k3;have c4:=(hg.cell (n * 5+4)).trans k4;have q0:=HG.cell 0;have f0:=HG.free 0;have q1:=HG.cell 1;have f1:=HG.free 1;have q2:=HG.cell 2;have f2:=HG.free 2;have q3:=HG.cell 3;have f3:=HG.free 3;have q4:=HG.cell 4;have f4:=HG.free 4;clear hg k0 k1 k2 k3 k4 HH HB hb2;have HR:=Hd (show lC.val .i64 (eO n)= .agg #[.string (eO n).name, .int .i64 (eO n).nums, .int .i64 (eO n).lJ, .int .i64 (eO n).least, .int .i64 (eO n).most] from rfl);go_wp2_with fail;refine bodyPost_ret (sJ _ _ _ _ _ rfl (((((HG.put 0 _).put 1 _).put 2 _).put 3 _).put 4 _) rfl) rfl ?_;exact ⟨by rw [HR.o];rfl,(((((HB2.o).setCell (Nat.le_refl _) _).setCell (Nat.le_refl _) _).setCell (Nat.le_refl _) _).setCell (Nat.le_refl _) _).setCell (Nat.le_refl _) _⟩
theorem sK {z:Int} (h:z < 0):dE z=⟨⟨#[]⟩,0,0,0,0⟩:=if_pos h
theorem mW {z:Int} (h:22≤z):dE z=⟨⟨#[]⟩,0,0,0,0⟩:=by
 unfold dE;rw [if_neg (by omega)];unfold eO;rw [List.getD_eq_getElem?_getD,List.getElem?_eq_none (by show om.length≤_;have:om.length=22:=rfl;omega)];rfl
theorem kN (n:Nat):dE (n:Int)=eO n:=by unfold dE;rw [if_neg (by omega),Int.toNat_natCast]
theorem MN (z:Int) (w:World):Calls Tryz.prog 63 #[.int .i64 z] w fun e w' =>e= .returned (lC.val .i64 (dE z))∧Below w.heap.size w w' :=by
 by_cases h0:z < 0
 · rw [sK h0];exact zM z h0 w
 · by_cases h1:22≤z
   · rw [mW h1];exact tT z h1 w
   · obtain ⟨n,rfl⟩:=Int.eq_ofNat_of_zero_le (show 0≤z by omega);rw [kN];exact Dt n (by omega) w
theorem GV (z:Int) (w:World):Calls Tryz.prog 87 #[.int .i64 z] w fun e w' =>e= .returned (.tuple #[.int .i64 (dE z).nums, .int .i64 (dE z).lJ, .int .i64 (dE z).least, .int .i64 (dE z).most])∧Below w.heap.size w w' :=by
 have HG:=Hd (MN z);generalize dE z=r at *;obtain ⟨nm,a,b,c,d⟩:=r;go_in;go_wp2_with fail;refine (HG.o _).mono ?_;rintro e w1 ⟨rfl,hb⟩;unfold lC.val;go_wp2_with fail;go_quiet (fail);go_wp2_with fail;refine bodyPost_ret (qb rfl _ _ _) rfl ?_;exact ⟨rfl,below_drewN (hb.alloc hb.size _) _⟩
end Go.Proofs.YtollifnnpihfdaaGreatDoor
namespace Go.Proofs.YtollifnnpihfdaaGreatDoor
open Go.RowKit
attribute [local irreducible] eO cZ
theorem gK {z:Int} (h:z < 0∨22≤z):dE z=⟨⟨#[]⟩,0,0,0,0⟩:=h.elim sK mW
theorem GX (z:Int) (w:World) (hc:Calls10 w):Calls Tryz.prog 92 #[.int .i64 z] w fun e w' =>e= .returned (.string (dE z).name)∧w=w' :=by
 by_cases h:z < 0∨22≤z
 · rw [gK h];exact xg z h w
 · obtain ⟨n,rfl⟩:=Int.eq_ofNat_of_zero_le (show 0≤z by omega);rw [kN];exact KS n (by omega) w hc
end Go.Proofs.YtollifnnpihfdaaGreatDoor
namespace Go.Proofs.YtollifnnpihfdaaGreatDoor
open Go.RowKit
abbrev Du (z:Int) (a:Nat→Int) (P:Option Addr) (np cp:Nat) (A:Option Addr) (na ca:Nat):Value:=
 .agg #[.int .i64 z, .int .i64 (a 0), .int .i64 (a 1), .int .i64 (a 2), .int .i64 (a 3), .slice P np cp, .slice A na ca]
def qd (m:Nat) (a:Nat→Int):Bool:=(List.range 4).all fun j=>decide (j < m) || a j == 0
theorem zN {m:Nat} {a:Nat→Int} {j:Nat} (h1:m≤j) (h2:j < 4) (h:a j≠0):qd m a=false:=by
 unfold qd;rw [List.all_eq_false];exact ⟨j,by simpa using h2,by simp;exact ⟨h1,h⟩⟩
theorem xh {m:Nat} {a:Nat→Int} (h:∀ j,m≤j→j < 4→a j=0):qd m a=true:=by
 unfold qd;rw [List.all_eq_true];intro j hj;simp at hj;by_cases hm:j < m
 · simp [hm]
 · simp [h j (by omega) hj]
def oo (z:Int) (a:Nat→Int) (ps gs:List ByteArray):Int:=
 if (dE z).name.size=0 then 100 else if qd (dE z).nums a=false then 101
 else if ps.length≠(dE z).lJ∨gs.length < (dE z).least∨(dE z).most < gs.length then 101
 else if jv ps 128=true∨jv gs 64=true then 102 else 0
theorem xk {z:Int} {a:Nat→Int} {ps gs:List ByteArray} {nm:ByteArray} {m p l u:Nat} (h:dE z=⟨nm,m,p,l,u⟩):oo z a ps gs=
 if nm.size=0 then 100 else if qd m a=false then 101 else if ps.length≠p∨gs.length < l∨u < gs.length then 101 else if jv ps 128=true∨jv gs 64=true then 102 else 0:=by unfold oo;rw [h]
theorem GY {w:World} {g:Nat} {t:TypeId} {z:Int} {a:Nat→Int} {x y:Value} (h:Blk w g t #[.int .i64 z, .int .i64 (a 0), .int .i64 (a 1), .int .i64 (a 2), .int .i64 (a 3),x,y]) (k:Nat) (hk:k < 4):w.cell? ⟨g,1+k,none⟩=some (.int .i64 (a k)):=by
 rw [h.cell]
 match k,hk with
 | 0,_=>rfl
 | 1,_=>rfl
 | 2,_=>rfl
 | 3,_=>rfl
attribute [local irreducible] eO cZ dE oo qd jv
end Go.Proofs.YtollifnnpihfdaaGreatDoor
namespace Go.Proofs.YtollifnnpihfdaaGreatDoor
open Go.RowKit
theorem mX {s:ByteArray} (h:s.size=0):s.toList= []:=by
 rw [ByteArray.toList_eq];exact List.eq_nil_of_length_eq_zero (by rw [Array.length_toList];exact h)
theorem jw {s:ByteArray} (h:s.size≠0):s.toList≠ []:=by
 rw [ByteArray.toList_eq];intro e;exact h (by have:=congrArg List.length e;rw [Array.length_toList] at this;exact this)
attribute [local irreducible] eO cZ dE oo qd jv
theorem zO (z:Int) (a:Nat→Int) (P:Option Addr) (cp:Nat) (A:Option Addr) (ca:Nat) (ps gs:List ByteArray) (w:World) (B:Nat) (hB:B≤w.heap.size) (hP:bD w B P ps) (hA:bD w B A gs) (hlp:ps.length≤1000) (hlg:gs.length≤1000) (hsp:∀ s∈ps,s.size≤maxLen) (hsg:∀ s∈gs,s.size≤maxLen):
   Calls Tryz.prog 83 #[Du z a P ps.length cp A gs.length ca] w fun e w' =>e= .returned (.int .i64 (oo z a ps gs))∧Below w.heap.size w w' :=by
 have HP:=Hd hP;have HA:=Hd hA;have HSP:=Hd hsp;have HSG:=Hd hsg;clear hP hA hsp hsg;have HG:=Hd (MN z);have hsm:(dE z).nums≤2∧(dE z).lJ≤2∧(dE z).least≤1∧(dE z).most≤4∧(dE z).name.size≤8:=by
   by_cases hz:z < 0∨22≤z
   · rw [gK hz];decide
   · obtain ⟨n,rfl⟩:=Int.eq_ofNat_of_zero_le (show 0≤z by omega);rw [kN];exact mV n
 generalize hr:dE z=r at *;have HR:=Hd (xk (a:=a) (ps:=ps) (gs:=gs) hr);clear hr;obtain ⟨nm,m,p,l,u⟩:=r;obtain ⟨s1,s2,s3,s4,_⟩:=hsm;by_cases hnm:nm.size=0
 · have e0:nm.toList.isEmpty=true:=(by rw [mX hnm];rfl);have e1:=mX hnm;have HN:=Hd hnm;clear hnm;go_in;go_wp2_with fail;refine (HG.o _).mono ?_;rintro e w1 ⟨rfl,hb⟩;unfold lC.val;go_wp2_with fail;go_ret;exact ⟨by rw [HR.o,if_pos HN.o];rfl,(oZ hb).alloc (oZ hb).size _⟩
 · have e0:nm.toList.isEmpty=false:=(by simpa using jw hnm);have e1:=jw hnm;go_in;go_wp2_with fail;refine (HG.o _).mono ?_;rintro e w1 ⟨rfl,hb⟩;unfold lC.val;have HG1:=(Blk.new w _ _).keep (boxed hb) (by omega);have HB1:=oZ hb;clear hb;go_wp2_with fail;have HG2:=HG1.alloc (.cells #[.string nm, .int .i64 (m:Int), .int .i64 (p:Int), .int .i64 (l:Int), .int .i64 (u:Int)] 147);have HRW:=Blk.new w1 #[.string nm, .int .i64 (m:Int), .int .i64 (p:Int), .int .i64 (l:Int), .int .i64 (u:Int)] 147;have HB:=Hd (HB1.alloc HB1.size (.cells #[.string nm, .int .i64 (m:Int), .int .i64 (p:Int), .int .i64 (l:Int), .int .i64 (u:Int)] 147));clear HG1 HB1;generalize w1.alloc (.cells #[.string nm, .int .i64 (m:Int), .int .i64 (p:Int), .int .i64 (l:Int), .int .i64 (u:Int)] 147)=w2 at *;generalize w1.heap.size=g1 at *;have q5:=HG2.cell 5;have q6:=HG2.cell 6;have HQ:=Hd (fun k hk=>GY HG2 k hk);have r1:=HRW.cell 1;have r2:=HRW.cell 2;have r3:=HRW.cell 3;have r4:=HRW.cell 4;clear HRW HG2;have HP1:=Hd (HP.o.keep HB.o hB);have HA1:=Hd (HA.o.keep HB.o hB);go_loop [4] (fun i=>∃ k:Nat,m≤k∧k≤4∧i= .int .i64 k∧Hid (∀ j,m≤j→j < k→a j=0)) (fun i=>4 - (intOf i).toNat);case atStart=>exact ⟨m,Nat.le_refl _,by omega,rfl,fun j h1 h2=>by omega⟩
   case round=>
     obtain ⟨k,hk0,hk,rfl,hno⟩:=hrel;by_cases hlt:k < 4
     · have hcell:=HQ.o k (by omega);by_cases ha:a k=0
       · have HN:=Hd (show ∀ j,m≤j→j < k+1→a j=0 from fun j h1 h2=>by
           by_cases e:j=k
           · rw [e];exact ha
           · exact hno.o j h1 (by omega))
         rw [ha] at hcell;clear ha;go_wp2_with fail
         go_round
         case rel=>exact ⟨k+1,by omega,by omega,by go_num,HN.o⟩
         case measure=>simp [intOf];omega
       · have HZ:=Hd (zN (m:=m) (a:=a) (j:=k) (by omega) (by omega) ha);have hab:(a k != 0)=true:=(by simpa using ha);clear ha;generalize a k=v at *;go_wp2_with fail;go_ret;exact ⟨by rw [HR.o,if_neg hnm,if_pos HZ.o];rfl,HB.o⟩
     · have HZ:=Hd (xh (m:=m) (a:=a) fun j h1 h2=>hno.o j h1 (by omega));clear hno;go_wp2_with fail;(all_goals try (go_ret;exact ⟨by rw [HR.o,if_neg hnm,if_neg (by rw [HZ.o];simp),if_pos (by omega)];rfl,HB.o⟩));have HK:=Hd (show ¬ (ps.length≠p∨gs.length < l∨u < gs.length) by omega);go_loop [5] (fun i=>∃ k:Nat,k≤ps.length∧i= .int .i64 k∧Hid (∀ j (hj:j < ps.length),j < k→ps[j].size≤128)) (fun i=>ps.length - (intOf i).toNat);case atStart=>exact ⟨0,Nat.zero_le _,rfl,fun j _ hj=>by omega⟩
       case round=>
         obtain ⟨k,hk,rfl,hno⟩:=hrel;by_cases hlt:k < ps.length
         · obtain ⟨ad,e,E5,hc⟩:=HP1.o k hlt;cases e;have hsz:=HSP.o _ (List.getElem_mem hlt);unfold maxLen at hsz;by_cases ho:128 < ps[k].size
           · have HL:=Hd (wS hlt ho);generalize ps[k]=s at *;go_wp2_with fail;go_ret;exact ⟨by rw [HR.o,if_neg hnm,if_neg (by rw [HZ.o];simp),if_neg HK.o,if_pos (.inl HL.o)];rfl,HB.o⟩
           · have HN:=Hd (show ∀ j (hj:j < ps.length),j < k+1→ps[j].size≤128 from fun j hj hjk=>by
               by_cases e:j=k
               · subst e;omega
               · exact hno.o j hj (by omega))
             generalize ps[k]=s at *;go_wp2_with fail
             go_round
             case rel=>exact ⟨k+1,by omega,by go_num,HN.o⟩
             case measure=>simp [intOf];omega
         · have L1:=Hd (sF fun j hj=>hno.o j hj (by omega));clear hno;go_wp2_with fail;go_loop [6] (fun i=>∃ k:Nat,k≤gs.length∧i= .int .i64 k∧Hid (∀ j (hj:j < gs.length),j < k→gs[j].size≤64)) (fun i=>gs.length - (intOf i).toNat);case atStart=>exact ⟨0,Nat.zero_le _,rfl,fun j _ hj=>by omega⟩
           case round=>
             obtain ⟨k,hk,rfl,hno⟩:=hrel;by_cases hlt:k < gs.length
             · obtain ⟨ad,e,E5,hc⟩:=HA1.o k hlt;cases e;have hsz:=HSG.o _ (List.getElem_mem hlt);unfold maxLen at hsz;by_cases ho:64 < gs[k].size
               · have HL:=Hd (wS hlt ho);generalize gs[k]=s at *;go_wp2_with fail;go_ret;exact ⟨by rw [HR.o,if_neg hnm,if_neg (by rw [HZ.o];simp),if_neg HK.o,if_pos (.inr HL.o)];rfl,HB.o⟩
               · have HN:=Hd (show ∀ j (hj:j < gs.length),j < k+1→gs[j].size≤64 from fun j hj hjk=>by
                  by_cases e:j=k
                  · subst e;omega
                  · exact hno.o j hj (by omega))
                 generalize gs[k]=s at *;go_wp2_with fail
                 go_round
                 case rel=>exact ⟨k+1,by omega,by go_num,HN.o⟩
                 case measure=>simp [intOf];omega
             · have L2:=Hd (sF fun j hj=>hno.o j hj (by omega));clear hno;go_wp2_with fail;go_ret;exact ⟨by rw [HR.o,if_neg hnm,if_neg (by rw [HZ.o];simp),if_neg HK.o,if_neg (by rw [L1.o,L2.o];simp)];rfl,HB.o⟩
end Go.Proofs.YtollifnnpihfdaaGreatDoor
namespace Go.Proofs.YtollifnnpihfdaaGreatDoor
open Go.ChangeShapes Go.WideShapes Go.RowKit Go.Joins Go.Deep
theorem chunks {α:Type} {c:Nat} :∀ {L:List (List α)} {cs:List α},cs.length=L.length * c→(∀ i (hi:i < L.length),(cs.drop (i * c)).take c=L[i])→cs=L.flatten
 | [],cs,h,_=>by simp at h;simp [h]
 | x :: L,cs,h,hi=>by
  have h0:=hi 0 (by simp);simp at h0;have hr:cs.drop c=L.flatten:=chunks (c:=c) (by rw [List.length_drop,h,List.length_cons,Nat.add_mul];omega) (fun i hlt=>by
   have:=hi (i+1) (by simp;omega);rw [List.drop_drop,show c+i * c=(i+1) * c by rw [Nat.add_mul];omega];simpa using this)
  rw [List.flatten_cons, ← hr, ← h0,List.take_append_drop]
section
variable {H:Type} {enc:TypeId×Value→H} {P:Program} {w:World} {base:Nat} {sp:Nat→Bool} {held:Bool}
theorem ql {cs:List Value} {j:Nat} {v:Value} (h:(cs.drop j).take 1= [v]):cs[j]? =some v:=by
 have:=congrArg (·[0]?) h;simpa [List.getElem?_take,List.getElem?_drop] using this
theorem aH {fuel:Nat} {t:TypeId} {f0 f1 f2 f3 f4:Field} {k:IntKind} {cs:List Value} {l:List UInt8} {a b c d:Int} {p:List MemPlace} (hs:P.underlying t=some (.struct #[f0,f1,f2,f3,f4])) (hone:oneCellFields P #[f0,f1,f2,f3,f4]=true) (hC:P.cellsOf t=5)
  (h0:P.underlying f0.type=some .string) (h1:P.underlying f1.type=some (.int k)) (h2:P.underlying f2.type=some (.int k)) (h3:P.underlying f3.type=some (.int k)) (h4:P.underlying f4.type=some (.int k))
  (h:DataW.trod enc P w base sp held fuel t cs=some (.agg [.lit (.string l), .lit (.int k a), .lit (.int k b), .lit (.int k c), .lit (.int k d)],p)):cs= [.string ⟨l.toArray⟩, .int k a, .int k b, .int k c, .int k d]:=by
 obtain ⟨xs,n,_,hx,hl,hlen,hg⟩:=DataW.trod_struct hs h;obtain ⟨o0,k0⟩:=hone_of hone 0 f0 rfl;obtain ⟨o1,k1⟩:=hone_of hone 1 f1 rfl;obtain ⟨o2,k2⟩:=hone_of hone 2 f2 rfl;obtain ⟨o3,k3⟩:=hone_of hone 3 f3 rfl;obtain ⟨o4,k4⟩:=hone_of hone 4 f4 rfl
 match xs,hlen with
 | [y0,y1,y2,y3,y4],_=>
  simp only [Prod.mk.injEq] at hx;have hx1:=hx.1;simp at hx1;obtain ⟨e0,e1,e2,e3,e4⟩:=hx1;have g0:=hg 0 f0 rfl;have g1:=hg 1 f1 rfl;have g2:=hg 2 f2 rfl;have g3:=hg 3 f3 rfl;have g4:=hg 4 f4 rfl;rw [o0,k0] at g0;rw [o1,k1] at g1;rw [o2,k2] at g2;rw [o3,k3] at g3;rw [o4,k4] at g4;simp only [List.getElem?_cons_zero,List.getElem?_cons_succ] at g0 g1 g2 g3 g4;obtain ⟨s,c0,z0,_⟩:=DataW.trod_string h0 g0;obtain ⟨n1,c1,z1,_⟩:=DataW.trod_int h1 g1;obtain ⟨n2,c2,z2,_⟩:=DataW.trod_int h2 g2;obtain ⟨n3,c3,z3,_⟩:=DataW.trod_int h3 g3;obtain ⟨n4,c4,z4,_⟩:=DataW.trod_int h4 g4;rw [z0] at e0;rw [z1] at e1;rw [z2] at e2;rw [z3] at e3;rw [z4] at e4;simp at e0 e1 e2 e3 e4;have q0:=ql c0;have q1:=ql c1;have q2:=ql c2;have q3:=ql c3;have q4:=ql c4;subst e1 e2 e3 e4;have es:s=⟨l.toArray⟩:=by rw [e0]
  subst es
  match cs,hl.trans hC with
  | [x0,x1,x2,x3,x4],_=>
   simp at q0 q1 q2 q3 q4;rw [q0,q1,q2,q3,q4]
theorem xM {fuel n c:Nat} {t e:TypeId} {cs:List Value} {ds:List (DataW H)} {p:List MemPlace} {L:List (List Value)} (ht:P.underlying t=some (.array n e)) (hce:P.cellsOf e=c) (hct:P.cellsOf t=n * c) (hL:L.length=n)
  (h:DataW.trod enc P w base sp held fuel t cs=some (.agg ds,p))
  (hel:∀ i (hi:i < L.length) m cs' d q,ds[i]? =some d→DataW.trod enc P w base sp held m e cs' =some (d,q)→cs' =L[i]):cs=L.flatten:=by
 obtain ⟨xs,m,_,hx,hl,hlen,hg⟩:=DataW.trod_array ht h;simp only [Prod.mk.injEq] at hx;have hx1:=hx.1;simp at hx1;refine chunks (c:=c) (by rw [hl,hct,hL]) fun i hi=>?_;have:=hg i (by omega);rw [hce] at this;have hxi:xs[i]? =some (xs[i]'(by omega)):=List.getElem?_eq_getElem (by omega);rw [hxi] at this;exact hel i hi m _ _ _ (by rw [hx1,List.getElem?_map,hxi];rfl) this
theorem qm {P:Program} {W:World} {laid:List (String×DataW Unit)} {name:String} {ds:List (DataW Unit)} {g n c:Nat} {t e:TypeId} {L:List (List Value)} {cs:Array Value} (i:Nat)
   (hpl:(laid.all fun x=>x.2.handleName?.isNone)=true) (h:laidMetH P laid W) (hi:laid[i]? =some (name, .agg ds))
   (hg:P.globalNamed name=some g) (hty:(P.globals[g]?).map (·.type)=some t) (ht:P.underlying t=some (.array n e)) (hce:P.cellsOf e=c) (hct:P.cellsOf t=n * c) (hL:L.length=n) (hcs:cs=L.flatten.toArray)
   (hel:∀ (w:World) i (hi:i < L.length) m cs' d q,ds[i]? =some d→DataW.trod (fun _=>()) P w 0 (fun _=>true) false m e cs' =some (d,q)→cs' =L[i]):qK W g cs:=by
 rw [MakeChecks.laidMetH_plain _ _ _ hpl] at h;obtain ⟨ps,hv,_⟩:=h;obtain ⟨g',t',cs',fuel,p,hg',ht',hvar,hd⟩:=uH hv i name _ hi;obtain rfl:=Option.some.inj (hg.symm.trans hg');obtain rfl:=Option.some.inj (hty.symm.trans ht');have hc:=xM ht hce hct hL hd (hel W);unfold World.var? at hvar;rw [hg] at hvar;simp only [Option.bind_some] at hvar;split at hvar
 · rename_i cs2 tt fr he;injection hvar with hvar;subst hvar;refine ⟨tt,fr,by rw [he,hcs, ← hc]⟩
 · cases hvar
end
theorem cells_of_row (w:World) (i:Nat) (hi:i < (om.map (lC.cells .u8)).length) (m:Nat) (cs' :List Value) (d:DataW Unit) (q:List MemPlace) (ds:List (DataW Unit)) (hds:DataW.agg ds=Rows.laid_kaudit_call_calls) (hd:ds[i]? =some d) (ht:DataW.trod (fun _=>()) Tryz.prog w 0 (fun _=>true) false m 237 cs' =some (d,q)):cs' =(om.map (lC.cells .u8))[i]:=by
 have H:∀ k:Fin 22,ds[k.val]? =some d→cs' =(om.map (lC.cells .u8))[k.val]'(by have:(om.map (lC.cells .u8)).length=22:=rfl;omega):=by
  unfold Rows.laid_kaudit_call_calls at hds;injection hds with hds;subst hds;intro k hd
  match k with
  | ⟨0,_⟩=>exact aH Tryz.underlying237 (by kernel_rfl) (by kernel_rfl) Tryz.underlying9 Tryz.underlying5 Tryz.underlying5 Tryz.underlying5 Tryz.underlying5 (by cases hd;exact ht)
  | ⟨1,_⟩=>exact aH Tryz.underlying237 (by kernel_rfl) (by kernel_rfl) Tryz.underlying9 Tryz.underlying5 Tryz.underlying5 Tryz.underlying5 Tryz.underlying5 (by cases hd;exact ht)
  | ⟨2,_⟩=>exact aH Tryz.underlying237 (by kernel_rfl) (by kernel_rfl) Tryz.underlying9 Tryz.underlying5 Tryz.underlying5 Tryz.underlying5 Tryz.underlying5 (by cases hd;exact ht)
  | ⟨3,_⟩=>exact aH Tryz.underlying237 (by kernel_rfl) (by kernel_rfl) Tryz.underlying9 Tryz.underlying5 Tryz.underlying5 Tryz.underlying5 Tryz.underlying5 (by cases hd;exact ht)
  | ⟨4,_⟩=>exact aH Tryz.underlying237 (by kernel_rfl) (by kernel_rfl) Tryz.underlying9 Tryz.underlying5 Tryz.underlying5 Tryz.underlying5 Tryz.underlying5 (by cases hd;exact ht)
  | ⟨5,_⟩=>exact aH Tryz.underlying237 (by kernel_rfl) (by kernel_rfl) Tryz.underlying9 Tryz.underlying5 Tryz.underlying5 Tryz.underlying5 Tryz.underlying5 (by cases hd;exact ht)
  | ⟨6,_⟩=>exact aH Tryz.underlying237 (by kernel_rfl) (by kernel_rfl) Tryz.underlying9 Tryz.underlying5 Tryz.underlying5 Tryz.underlying5 Tryz.underlying5 (by cases hd;exact ht)
  | ⟨7,_⟩=>exact aH Tryz.underlying237 (by kernel_rfl) (by kernel_rfl) Tryz.underlying9 Tryz.underlying5 Tryz.underlying5 Tryz.underlying5 Tryz.underlying5 (by cases hd;exact ht)
  | ⟨8,_⟩=>exact aH Tryz.underlying237 (by kernel_rfl) (by kernel_rfl) Tryz.underlying9 Tryz.underlying5 Tryz.underlying5 Tryz.underlying5 Tryz.underlying5 (by cases hd;exact ht)
  | ⟨9,_⟩=>exact aH Tryz.underlying237 (by kernel_rfl) (by kernel_rfl) Tryz.underlying9 Tryz.underlying5 Tryz.underlying5 Tryz.underlying5 Tryz.underlying5 (by cases hd;exact ht)
  | ⟨10,_⟩=>exact aH Tryz.underlying237 (by kernel_rfl) (by kernel_rfl) Tryz.underlying9 Tryz.underlying5 Tryz.underlying5 Tryz.underlying5 Tryz.underlying5 (by cases hd;exact ht)
  | ⟨11,_⟩=>exact aH Tryz.underlying237 (by kernel_rfl) (by kernel_rfl) Tryz.underlying9 Tryz.underlying5 Tryz.underlying5 Tryz.underlying5 Tryz.underlying5 (by cases hd;exact ht)
  | ⟨12,_⟩=>exact aH Tryz.underlying237 (by kernel_rfl) (by kernel_rfl) Tryz.underlying9 Tryz.underlying5 Tryz.underlying5 Tryz.underlying5 Tryz.underlying5 (by cases hd;exact ht)
  | ⟨13,_⟩=>exact aH Tryz.underlying237 (by kernel_rfl) (by kernel_rfl) Tryz.underlying9 Tryz.underlying5 Tryz.underlying5 Tryz.underlying5 Tryz.underlying5 (by cases hd;exact ht)
  | ⟨14,_⟩=>exact aH Tryz.underlying237 (by kernel_rfl) (by kernel_rfl) Tryz.underlying9 Tryz.underlying5 Tryz.underlying5 Tryz.underlying5 Tryz.underlying5 (by cases hd;exact ht)
  | ⟨15,_⟩=>exact aH Tryz.underlying237 (by kernel_rfl) (by kernel_rfl) Tryz.underlying9 Tryz.underlying5 Tryz.underlying5 Tryz.underlying5 Tryz.underlying5 (by cases hd;exact ht)
  | ⟨16,_⟩=>exact aH Tryz.underlying237 (by kernel_rfl) (by kernel_rfl) Tryz.underlying9 Tryz.underlying5 Tryz.underlying5 Tryz.underlying5 Tryz.underlying5 (by cases hd;exact ht)
  | ⟨17,_⟩=>exact aH Tryz.underlying237 (by kernel_rfl) (by kernel_rfl) Tryz.underlying9 Tryz.underlying5 Tryz.underlying5 Tryz.underlying5 Tryz.underlying5 (by cases hd;exact ht)
  | ⟨18,_⟩=>exact aH Tryz.underlying237 (by kernel_rfl) (by kernel_rfl) Tryz.underlying9 Tryz.underlying5 Tryz.underlying5 Tryz.underlying5 Tryz.underlying5 (by cases hd;exact ht)
  | ⟨19,_⟩=>exact aH Tryz.underlying237 (by kernel_rfl) (by kernel_rfl) Tryz.underlying9 Tryz.underlying5 Tryz.underlying5 Tryz.underlying5 Tryz.underlying5 (by cases hd;exact ht)
  | ⟨20,_⟩=>exact aH Tryz.underlying237 (by kernel_rfl) (by kernel_rfl) Tryz.underlying9 Tryz.underlying5 Tryz.underlying5 Tryz.underlying5 Tryz.underlying5 (by cases hd;exact ht)
  | ⟨21,_⟩=>exact aH Tryz.underlying237 (by kernel_rfl) (by kernel_rfl) Tryz.underlying9 Tryz.underlying5 Tryz.underlying5 Tryz.underlying5 Tryz.underlying5 (by cases hd;exact ht)
  | ⟨k+22,h⟩=>exact absurd h (by omega)
 exact H ⟨i,hi⟩ hd
theorem calls_of_laid {W : World} {laid : List (String × DataW Unit)} (i : Nat) (hpl : (laid.all fun x => x.2.handleName?.isNone) = true) (h : laidMetH Tryz.prog laid W) (hi : laid[i]? = some ("kaudit/call.calls", Rows.laid_kaudit_call_calls)) : Calls10 W :=
 qm (t:=238) (e:=237) (c:=5) (n:=22) (L:=om.map (lC.cells .u8)) i hpl h hi rfl (by kernel_rfl) Tryz.underlying238 (by kernel_rfl) (by kernel_rfl) rfl rfl (fun w i hi m cs' d q hd ht=>cells_of_row w i hi m cs' d q _ rfl hd ht)
end Go.Proofs.YtollifnnpihfdaaGreatDoor
