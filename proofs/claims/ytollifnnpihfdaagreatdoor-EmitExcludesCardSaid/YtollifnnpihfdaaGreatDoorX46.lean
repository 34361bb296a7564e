import Derived.Test.YtollifnnpihfdaaGreatDoorX45
import Derived.Test.YtollifnnpihfdaaGreatDoorX40
set_option maxRecDepth 100000
set_option maxHeartbeats 64000000
set_option linter.all false
namespace Go.Proofs.YtollifnnpihfdaaGreatDoor
open Go.RowKit
theorem gJ.gv {w:World} {g:Nat} {i:Itm} {ir:bB} (h:gJ w g i ir):w.cell? ⟨g,0,none⟩=some (.string ir.gv):=h.cell 0
theorem gJ.pa {w:World} {g:Nat} {i:Itm} {ir:bB} (h:gJ w g i ir):w.cell? ⟨g,1,none⟩=some (.string ir.pa):=h.cell 1
theorem gJ.ro {w:World} {g:Nat} {i:Itm} {ir:bB} (h:gJ w g i ir):w.cell? ⟨g,7,none⟩=some (.int .i64 ir.ro):=h.cell 7
theorem gJ.mo {w:World} {g:Nat} {i:Itm} {ir:bB} (h:gJ w g i ir):w.cell? ⟨g,9,none⟩=some (.int .i64 ir.mo):=h.cell 9
theorem gJ.pe {w:World} {g:Nat} {i:Itm} {ir:bB} (h:gJ w g i ir):w.cell? ⟨g,12,none⟩=some (.int .i64 ir.pe):=h.cell 12
theorem GD (k:Int) (w:World):Calls Tryz.prog 101 #[.int .i64 k] w fun e w' =>e= .returned (.string (qp k))∧w=w' :=by
 have HK:=Hd (show qp k=_ from rfl);by_cases h1:k=1
 · subst h1;go_in;go_wp2_with fail;go_ret;exact ⟨rfl,rfl⟩
 · by_cases h2:k=2
   · subst h2;go_in;go_wp2_with fail;go_ret;exact ⟨rfl,rfl⟩
   · by_cases h3:k=3
     · subst h3;go_in;go_wp2_with fail;go_ret;exact ⟨rfl,rfl⟩
     · have HE:=Hd (show qp k=⟨#[110,111,110,101]⟩ by unfold qp;rw [if_neg h1,if_neg h2,if_neg h3]);have q1:=(aN h1).1;have q2:=(aN h2).1;have q3:=(aN h3).1;clear HK;go_in;go_wp2_with fail;go_ret;exact ⟨by rw [HE.o];rfl,rfl⟩
theorem GG (k:Int) (w:World):Calls Tryz.prog 102 #[.int .i64 k] w fun e w' =>e= .returned (.string (qw k))∧w=w' :=by
 have HK:=Hd (show qw k=_ from rfl);by_cases h1:k=1
 · subst h1;go_in;go_wp2_with fail;go_ret;exact ⟨rfl,rfl⟩
 · by_cases h2:k=2
   · subst h2;go_in;go_wp2_with fail;go_ret;exact ⟨rfl,rfl⟩
   · by_cases h3:k=3
     · subst h3;go_in;go_wp2_with fail;go_ret;exact ⟨rfl,rfl⟩
     · have HE:=Hd (show qw k=⟨#[110,111,110,101]⟩ by unfold qw;rw [if_neg h1,if_neg h2,if_neg h3]);have q1:=(aN h1).1;have q2:=(aN h2).1;have q3:=(aN h3).1;clear HK;go_in;go_wp2_with fail;go_ret;exact ⟨by rw [HE.o];rfl,rfl⟩
attribute [local irreducible] aO Mk.C qp qw
attribute [-go_sem] loadVar
attribute [local go_sem] lv3 Ea Eb yY IU
theorem GH (m:Mk) (base g:Nat) (L:List Rc) (hL:L.length < 2000) (i:Int) (y:Itm) (r:bB) (p1 p2 p3 p4:Pr) (h1:TxC 47 ⟨#[110,97,109,101]⟩ r.gv p1) (h2:TxC 50 ⟨#[112,97,116,104]⟩ r.pa p2) (h3:TxC 47 ⟨#[107,105,110,100]⟩ (qp y.kind) p3) (h4:TxC 47 ⟨#[114,111,108,101]⟩ (qw r.ro) p4) (w:World) (hE:EvG m w base g L):
  Calls Tryz.prog 51 #[.pointer (some ⟨g,0,none⟩), .int .i64 i,rR y r] w (yV m base g (jU m L 1302 [⟨⟨#[105,116,101,109]⟩,1,i,⟨#[]⟩⟩,p1,p2,⟨⟨#[100,101,118]⟩,1,y.dev,⟨#[]⟩⟩,⟨⟨#[105,110,111,100,101]⟩,1,y.ino,⟨#[]⟩⟩,⟨⟨#[109,111,100,101]⟩,1,r.mo,⟨#[]⟩⟩,⟨⟨#[111,117,105,100]⟩,1,y.uid,⟨#[]⟩⟩,⟨⟨#[111,103,105,100]⟩,1,y.gid,⟨#[]⟩⟩,p3,p4,⟨⟨#[112,101,114,109]⟩,1,r.pe,⟨#[]⟩⟩]) w):=by
 have H1:=Hd h1;have H2:=Hd h2;have H3:=Hd h3;have H4:=Hd h4;have HLL:=Hd hL;have HE:=Hd hE;have hlt:=hE.lt;have HB0:=Hd ((Below.refl w.heap.size w).alloc (Nat.le_refl _) (.cells (aO y r) 73));have X0:=Hd (show gJ (w.alloc (.cells (aO y r) 73)) w.heap.size y r from Blk.new w _ _);have NU:w.heap.size≠g:=by omega
 clear hE h1 h2 h3 h4 hL;go_in;go_upto_region 1 with fail;generalize w.alloc (.cells (aO y r) 73)=w0 at *;have HBc:=Hd HB0.o.drew;refine wp_region_held_drew (S:=(fun W' =>Blk W' w.heap.size 73 (aO y r))) (by kernel_rfl) (Blk.below X0.o (Below.refl _ _).drew) (fun hHeld=>?_);clear X0 HB0;refine tk hHeld 0 ?_ ?_ (tk hHeld 1 ?_ ?_ (tk hHeld 3 ?_ ?_ (tk hHeld 4 ?_ ?_ (tk hHeld 6 ?_ ?_ (tk hHeld 7 ?_ ?_ (tk hHeld 9 ?_ ?_ (tk hHeld 10 ?_ ?_ (tk hHeld 11 ?_ ?_ (tk hHeld 13 ?_ ?_ (tk hHeld 14 ?_ ?_ (tk hHeld 15 ?_ ?_ (tk hHeld 17 ?_ ?_ (tk hHeld 18 ?_ ?_ (tk hHeld 20 ?_ ?_ (tk hHeld 21 ?_ ?_ (tk hHeld 23 ?_ ?_ (tk hHeld 24 ?_ ?_ (tk hHeld 26 ?_ ?_ (tk hHeld 27 ?_ ?_ (tk hHeld 30 ?_ ?_ (tk hHeld 31 ?_ ?_ (tk hHeld 34 ?_ ?_ (tk hHeld 35 ?_ ?_ ?_)))))))))))))))))))))));iterate 24
  rotate_left
  · intro w hSw;have kk:=gJ.gv hSw;have Kz:=gJ.pa hSw;have LZ:=gJ.dev hSw;have NF:=gJ.ino hSw;have NG:=gJ.mo hSw;have NH:=gJ.uid hSw;have NI:=gJ.gid hSw;have NJ:=gJ.kind hSw;have NK:=gJ.ro hSw;have NL:=gJ.pe hSw;go_simp;first | (with_reducible rfl) | (rw [if_neg (by first | omega | (simp;omega))])
 refine rdy1 2 (fun K hK=>?_);go_simp;go_at_call 48;refine (eD _ _ _).mono ?_;rintro e wl ⟨rfl,hb⟩;have HBc:=Hd (aa HBc.o hb);have hh:=hHeld.below hb;clear hb;go_simp;refine hK.o _ _ hh (fun hHeld=>?_);clear hK K;clear hh;refine rdy1 5 (fun K hK=>?_);go_simp;go_at_call 47;refine (H1.o _).mono ?_;rintro e wl ⟨rfl,hb⟩;have HBc:=Hd (aa HBc.o hb);have hh:=hHeld.below hb;clear hb;go_simp;refine hK.o _ _ hh (fun hHeld=>?_);clear hK K;clear hh;refine rdy1 8 (fun K hK=>?_);go_simp;go_at_call 50;refine (H2.o _).mono ?_;rintro e wl ⟨rfl,hb⟩;have HBc:=Hd (aa HBc.o hb);have hh:=hHeld.below hb;clear hb;go_simp;refine hK.o _ _ hh (fun hHeld=>?_);clear hK K;clear hh;refine rdy1 12 (fun K hK=>?_);go_simp;go_at_call 48;refine (eD _ _ _).mono ?_;rintro e wl ⟨rfl,hb⟩;have HBc:=Hd (aa HBc.o hb);have hh:=hHeld.below hb;clear hb;go_simp;refine hK.o _ _ hh (fun hHeld=>?_);clear hK K;clear hh;refine rdy1 16 (fun K hK=>?_);go_simp;go_at_call 48;refine (eD _ _ _).mono ?_;rintro e wl ⟨rfl,hb⟩;have HBc:=Hd (aa HBc.o hb);have hh:=hHeld.below hb;clear hb;go_simp;refine hK.o _ _ hh (fun hHeld=>?_);clear hK K;clear hh;refine rdy1 19 (fun K hK=>?_);go_simp;go_at_call 48;refine (eD _ _ _).mono ?_;rintro e wl ⟨rfl,hb⟩;have HBc:=Hd (aa HBc.o hb);have hh:=hHeld.below hb;clear hb;go_simp;refine hK.o _ _ hh (fun hHeld=>?_);clear hK K;clear hh;refine rdy1 22 (fun K hK=>?_);go_simp;go_at_call 48;refine (eD _ _ _).mono ?_;rintro e wl ⟨rfl,hb⟩;have HBc:=Hd (aa HBc.o hb);have hh:=hHeld.below hb;clear hb;go_simp;refine hK.o _ _ hh (fun hHeld=>?_);clear hK K;clear hh;refine rdy1 25 (fun K hK=>?_);go_simp;go_at_call 48;refine (eD _ _ _).mono ?_;rintro e wl ⟨rfl,hb⟩;have HBc:=Hd (aa HBc.o hb);have hh:=hHeld.below hb;clear hb;go_simp;refine hK.o _ _ hh (fun hHeld=>?_);clear hK K;clear hh;refine rdy1 28 (fun K hK=>?_);go_simp;go_at_call 101;refine (GD _ _).mono ?_;rintro e wl ⟨rfl,rfl⟩;go_simp;refine hK.o _ _ hHeld (fun hHeld=>?_);clear hK K;refine rdy1 29 (fun K hK=>?_);go_simp;go_at_call 47;refine (H3.o _).mono ?_;rintro e wl ⟨rfl,hb⟩;have HBc:=Hd (aa HBc.o hb);have hh:=hHeld.below hb;clear hb;go_simp;refine hK.o _ _ hh (fun hHeld=>?_);clear hK K;clear hh;refine rdy1 32 (fun K hK=>?_);go_simp;go_at_call 102;refine (GG _ _).mono ?_;rintro e wl ⟨rfl,rfl⟩;go_simp;refine hK.o _ _ hHeld (fun hHeld=>?_);clear hK K;refine rdy1 33 (fun K hK=>?_);go_simp;go_at_call 47;refine (H4.o _).mono ?_;rintro e wl ⟨rfl,hb⟩;have HBc:=Hd (aa HBc.o hb);have hh:=hHeld.below hb;clear hb;go_simp;refine hK.o _ _ hh (fun hHeld=>?_);clear hK K;clear hh;refine rdy1 36 (fun K hK=>?_);go_simp;go_at_call 48;refine (eD _ _ _).mono ?_;rintro e wl ⟨rfl,hb⟩;have HBc:=Hd (aa HBc.o hb);have hh:=hHeld.below hb;clear hb;go_simp;refine hK.o _ _ hh (fun hHeld=>?_);clear hK K;clear hh;refine rdy1 37 (fun K hK=>?_);have HBd:=Hd (HBc.o.alloc HBc.o.size (.cells #[.string ⟨#[105,116,101,109]⟩, .int .i64 1, .int .i64 i, .string ⟨#[]⟩, .string p1.nm, .int .i64 p1.kd, .int .i64 p1.nu, .string p1.tx, .string p2.nm, .int .i64 p2.kd, .int .i64 p2.nu, .string p2.tx, .string ⟨#[100,101,118]⟩, .int .i64 1, .int .i64 y.dev, .string ⟨#[]⟩, .string ⟨#[105,110,111,100,101]⟩, .int .i64 1, .int .i64 y.ino, .string ⟨#[]⟩, .string ⟨#[109,111,100,101]⟩, .int .i64 1, .int .i64 r.mo, .string ⟨#[]⟩, .string ⟨#[111,117,105,100]⟩, .int .i64 1, .int .i64 y.uid, .string ⟨#[]⟩, .string ⟨#[111,103,105,100]⟩, .int .i64 1, .int .i64 y.gid, .string ⟨#[]⟩, .string p3.nm, .int .i64 p3.kd, .int .i64 p3.nu, .string p3.tx, .string p4.nm, .int .i64 p4.kd, .int .i64 p4.nu, .string p4.tx, .string ⟨#[112,101,114,109]⟩, .int .i64 1, .int .i64 r.pe, .string ⟨#[]⟩] 79));have RW:=Hd (jf EP wl #[.string ⟨#[105,116,101,109]⟩, .int .i64 1, .int .i64 i, .string ⟨#[]⟩, .string p1.nm, .int .i64 p1.kd, .int .i64 p1.nu, .string p1.tx, .string p2.nm, .int .i64 p2.kd, .int .i64 p2.nu, .string p2.tx, .string ⟨#[100,101,118]⟩, .int .i64 1, .int .i64 y.dev, .string ⟨#[]⟩, .string ⟨#[105,110,111,100,101]⟩, .int .i64 1, .int .i64 y.ino, .string ⟨#[]⟩, .string ⟨#[109,111,100,101]⟩, .int .i64 1, .int .i64 r.mo, .string ⟨#[]⟩, .string ⟨#[111,117,105,100]⟩, .int .i64 1, .int .i64 y.uid, .string ⟨#[]⟩, .string ⟨#[111,103,105,100]⟩, .int .i64 1, .int .i64 y.gid, .string ⟨#[]⟩, .string p3.nm, .int .i64 p3.kd, .int .i64 p3.nu, .string p3.tx, .string p4.nm, .int .i64 p4.kd, .int .i64 p4.nu, .string p4.tx, .string ⟨#[112,101,114,109]⟩, .int .i64 1, .int .i64 r.pe, .string ⟨#[]⟩] 79 [⟨⟨#[105,116,101,109]⟩,1,i,⟨#[]⟩⟩,p1,p2,⟨⟨#[100,101,118]⟩,1,y.dev,⟨#[]⟩⟩,⟨⟨#[105,110,111,100,101]⟩,1,y.ino,⟨#[]⟩⟩,⟨⟨#[109,111,100,101]⟩,1,r.mo,⟨#[]⟩⟩,⟨⟨#[111,117,105,100]⟩,1,y.uid,⟨#[]⟩⟩,⟨⟨#[111,103,105,100]⟩,1,y.gid,⟨#[]⟩⟩,p3,p4,⟨⟨#[112,101,114,109]⟩,1,r.pe,⟨#[]⟩⟩] rfl (B:=(wl.alloc (.cells #[.string ⟨#[105,116,101,109]⟩, .int .i64 1, .int .i64 i, .string ⟨#[]⟩, .string p1.nm, .int .i64 p1.kd, .int .i64 p1.nu, .string p1.tx, .string p2.nm, .int .i64 p2.kd, .int .i64 p2.nu, .string p2.tx, .string ⟨#[100,101,118]⟩, .int .i64 1, .int .i64 y.dev, .string ⟨#[]⟩, .string ⟨#[105,110,111,100,101]⟩, .int .i64 1, .int .i64 y.ino, .string ⟨#[]⟩, .string ⟨#[109,111,100,101]⟩, .int .i64 1, .int .i64 r.mo, .string ⟨#[]⟩, .string ⟨#[111,117,105,100]⟩, .int .i64 1, .int .i64 y.uid, .string ⟨#[]⟩, .string ⟨#[111,103,105,100]⟩, .int .i64 1, .int .i64 y.gid, .string ⟨#[]⟩, .string p3.nm, .int .i64 p3.kd, .int .i64 p3.nu, .string p3.tx, .string p4.nm, .int .i64 p4.kd, .int .i64 p4.nu, .string p4.tx, .string ⟨#[112,101,114,109]⟩, .int .i64 1, .int .i64 r.pe, .string ⟨#[]⟩] 79)).heap.size) (by simp));have hh:=hHeld.below ((Below.refl wl.heap.size wl).alloc (Nat.le_refl _) (.cells #[.string ⟨#[105,116,101,109]⟩, .int .i64 1, .int .i64 i, .string ⟨#[]⟩, .string p1.nm, .int .i64 p1.kd, .int .i64 p1.nu, .string p1.tx, .string p2.nm, .int .i64 p2.kd, .int .i64 p2.nu, .string p2.tx, .string ⟨#[100,101,118]⟩, .int .i64 1, .int .i64 y.dev, .string ⟨#[]⟩, .string ⟨#[105,110,111,100,101]⟩, .int .i64 1, .int .i64 y.ino, .string ⟨#[]⟩, .string ⟨#[109,111,100,101]⟩, .int .i64 1, .int .i64 r.mo, .string ⟨#[]⟩, .string ⟨#[111,117,105,100]⟩, .int .i64 1, .int .i64 y.uid, .string ⟨#[]⟩, .string ⟨#[111,103,105,100]⟩, .int .i64 1, .int .i64 y.gid, .string ⟨#[]⟩, .string p3.nm, .int .i64 p3.kd, .int .i64 p3.nu, .string p3.tx, .string p4.nm, .int .i64 p4.kd, .int .i64 p4.nu, .string p4.tx, .string ⟨#[112,101,114,109]⟩, .int .i64 1, .int .i64 r.pe, .string ⟨#[]⟩] 79));go_simp;refine hK.o _ _ hh (fun hHeld=>?_);clear hK K;clear hh;have HED:=Hd (HE.o.below HBd.o);refine rdy1 38 (fun K hK=>?_);go_simp;go_at_call 46;refine (wF m base g L 1302 (some ⟨wl.heap.size,0,none⟩) 11 11 [⟨⟨#[105,116,101,109]⟩,1,i,⟨#[]⟩⟩,p1,p2,⟨⟨#[100,101,118]⟩,1,y.dev,⟨#[]⟩⟩,⟨⟨#[105,110,111,100,101]⟩,1,y.ino,⟨#[]⟩⟩,⟨⟨#[109,111,100,101]⟩,1,r.mo,⟨#[]⟩⟩,⟨⟨#[111,117,105,100]⟩,1,y.uid,⟨#[]⟩⟩,⟨⟨#[111,103,105,100]⟩,1,y.gid,⟨#[]⟩⟩,p3,p4,⟨⟨#[112,101,114,109]⟩,1,r.pe,⟨#[]⟩⟩] rfl (by omega) HLL.o _ HED.o RW.o).mono ?_;rintro e wz ⟨rfl,hez,hbz,hkp⟩;have hh:=hkp _ _ _ (by decide) NU hHeld;have HF:=Hd (show yV m base g (jU m L 1302 [⟨⟨#[105,116,101,109]⟩,1,i,⟨#[]⟩⟩,p1,p2,⟨⟨#[100,101,118]⟩,1,y.dev,⟨#[]⟩⟩,⟨⟨#[105,110,111,100,101]⟩,1,y.ino,⟨#[]⟩⟩,⟨⟨#[109,111,100,101]⟩,1,r.mo,⟨#[]⟩⟩,⟨⟨#[111,117,105,100]⟩,1,y.uid,⟨#[]⟩⟩,⟨⟨#[111,103,105,100]⟩,1,y.gid,⟨#[]⟩⟩,p3,p4,⟨⟨#[112,101,114,109]⟩,1,r.pe,⟨#[]⟩⟩]) w (.returned (.tuple #[])) wz from ⟨rfl,hez,(HBd.o.mono (Nat.le_trans HE.o.hg (Nat.le_of_lt hlt))).trans hbz,fun k t cs ht hkg hk=>hkp k t cs ht hkg (hk.below HBd.o)⟩);clear hez hbz hkp;go_simp;refine hK.o _ _ hh (fun hHeld=>?_);clear hK K;clear hh;refine wpAnyH_done (by kernel_rfl) ?_ _;go_simp;go_wp2_with fail
 go_end0
 exact HF.o
end Go.Proofs.YtollifnnpihfdaaGreatDoor
namespace Go.Proofs.YtollifnnpihfdaaGreatDoor
open Go.RowKit
theorem za {k:Nat} (h:k < 4):(⟨#[97]⟩:ByteArray) ++ ⟨(Lib.decDigits k).toArray⟩=Gw k:=by
 have:k=0∨k=1∨k=2∨k=3:=by omega
 rcases this with rfl | rfl | rfl | rfl <;> decide+kernel
theorem zb {k:Nat} (h:k < 4):(⟨(Lib.decDigits k).toArray⟩:ByteArray).size≤10:=by
 have:k=0∨k=1∨k=2∨k=3:=by omega
 rcases this with rfl | rfl | rfl | rfl <;> decide+kernel
def IV (k:Nat) (s:ByteArray):Pr:=txP (Gw k) s
def pq (args:List ByteArray) (k:Nat):List Pr:=nuP ⟨#[97,114,103,99]⟩ args.length :: (args.take k).mapIdx IV
theorem ze {args:List ByteArray} {k:Nat} (h:k < args.length):pq args (k+1)=pq args k ++ [IV k (args[k]'h)]:=by
 unfold pq;rw [List.take_add_one,List.getElem?_eq_getElem h];show _ :: List.mapIdx IV (args.take k ++ [args[k]])=_;rw [List.mapIdx_concat,List.length_take,Nat.min_eq_left (by omega)];rfl
theorem wH (args:List ByteArray) (k:Nat) (h:k≤args.length):(pq args k).length=k+1:=by
 unfold pq;rw [List.length_cons,List.length_mapIdx,List.length_take,Nat.min_eq_left h]
theorem CY (args:List ByteArray):wG args=pq args (min args.length 4):=by
 unfold wG pq;have e:args.take 4=args.take (min args.length 4):=by
  rcases Nat.le_total args.length 4 with h | h
  · rw [Nat.min_eq_left h,List.take_length,List.take_of_length_le h]
  · rw [Nat.min_eq_right h]
 rw [e];rfl
theorem Mk.c23 (m:Mk) (v:Value):(m.C v)[23]? =some m.r.gs.v:=rfl
attribute [local irreducible] Mk.C txP Gw pq
attribute [-go_sem] loadVar
attribute [local go_sem] lv3 Ea Eb yY IU
theorem GI (a:Addr) (w:World):(loadVar 49 a).run Tryz.prog w=(load a).run Tryz.prog w:=by
 unfold loadVar;simp [go_sem]
attribute [local go_sem] GI
theorem GJ (m:Mk) (base g:Nat) (L:List Rc) (hL:L.length < 2000) (args:List ByteArray) (hn:m.r.gs.n=args.length) (nS:args.length≤1000) (w:World) (hE:EvG m w base g L) (hA:AtE qb w base m.r.gs.A args):
  Calls Tryz.prog 45 #[.pointer (some ⟨g,0,none⟩)] w (yV m base g (jU m L 1309 (wG args)) w):=by
 have HLL:=Hd hL;have HE:=Hd hE;have HA:=Hd hA;have HFW:=Hd nS;obtain ⟨v,hb,_⟩:=hE.blk;have hlt:=hb.lt;have hbs:=hE.hg;have HEX:=Hd (CY args);have c23:=(hb.cell 23).trans (m.c23 v);generalize hq:m.r.gs=q at *;obtain ⟨qA,qn,qc⟩:=q;simp only at hn hA HA;have c24:w.cell? ⟨g,23,none⟩=some (.slice qA qn qc):=c23;clear c23;have HN:=Hd hn;clear hb hE hA hL nS hn;go_in;go_wp2_with fail;clear c24;refine (eD ⟨#[97,114,103,99]⟩ (qn:Int) w).mono ?_;rintro e w1 ⟨rfl,hb1⟩;have CS0:=Hd (ax.lit EP w1 w.heap.size #[.string ⟨#[97,114,103,99]⟩, .int .i64 1, .int .i64 (qn:Int), .string ⟨#[]⟩] ⟨⟨#[97,114,103,99]⟩,1,(qn:Int),⟨#[]⟩⟩ rfl hb1.size);have B2:=Hd (hb1.alloc hb1.size (.cells #[.string ⟨#[97,114,103,99]⟩, .int .i64 1, .int .i64 (qn:Int), .string ⟨#[]⟩] 79));have O2:=Hd (show ax EP (w1.alloc (.cells #[.string ⟨#[97,114,103,99]⟩, .int .i64 1, .int .i64 (qn:Int), .string ⟨#[]⟩] 79)) w.heap.size (.slice (some ⟨w1.heap.size,0,none⟩) 1 1) (pq args 0) by
  have e:pq args 0= [⟨⟨#[97,114,103,99]⟩,1,(qn:Int),⟨#[]⟩⟩]:=by unfold pq nuP;rw [HN.o];rfl
  rw [e];exact CS0.o)
 clear hb1 CS0;obtain ⟨j,hj⟩:∃ j:Nat,j=min qn 4:=⟨_,rfl⟩;have hmin:min (qn:Int) 4=(j:Int):=by omega
 have hj4:j≤4:=by omega
 have hjn:j≤args.length:=by have:=HN.o;omega
 have HJ:=Hd (show min args.length 4=j by rw [hj,HN.o]);clear hj;have HMN:=Hd hmin;go_upto_block 0 with fail;generalize w1.alloc (.cells #[.string ⟨#[97,114,103,99]⟩, .int .i64 1, .int .i64 (qn:Int), .string ⟨#[]⟩] 79)=w2 at *;clear hmin;go_wp2_with fail;go_loopw [3,18] (fun v ix wr=>∃ (k:Nat) (A0:Option Addr) (n0 c0:Nat),k≤j∧v= .slice A0 n0 c0∧ix= .int .i64 (k:Int)∧Hid (ax EP wr w.heap.size (.slice A0 n0 c0) (pq args k))∧Hid (Below w.heap.size w wr)) (fun _ ix _=>j - (intOf ix).toNat);case atStart=>exact ⟨0,_,_,_,Nat.zero_le _,rfl,rfl,O2,B2⟩
 case round=>
  obtain ⟨k,A0,n0,c0,hk,rfl,rfl,HO,HB⟩:=hrel;clear O2 B2;by_cases hlt:k < j;case pos=>
   have hka:k < args.length:=(by omega);have k0:(0:Int)≤(k:Int):=(by omega);have kn:(k:Int) < (qn:Int):=(by have:=HN.o;omega);have kj:(k:Int) < (j:Int):=(by omega);have hk4:k < 4:=(by omega);obtain ⟨ad,rfl,hab,hcx⟩:=HA.o k hka;have HS0:=Hd (show w.cell? (ad.add k)=some (.string args[k]) by have h:=ny (a:=ad.add (k * 1)) hcx;rwa [Nat.mul_one] at h);have HNX:=Hd (ze hka);have HKL:=Hd (wH args k (by omega));obtain ⟨dg,hdg⟩:∃ dg:ByteArray,dg=⟨(Lib.decDigits k).toArray⟩:=⟨_,rfl⟩;have HDG:=Hd hdg;have HD:=Hd (show (⟨#[97]⟩:ByteArray) ++ dg=Gw k by rw [hdg];exact za hk4);have hds:dg.size≤10:=(by rw [hdg];exact zb hk4);clear hdg hcx;generalize args[k]=x at *;obtain ⟨p,hp⟩:∃ p:Pr,p=txP (⟨#[97]⟩ ++ dg) x:=⟨_,rfl⟩;have HP:=Hd (show p=IV k x by rw [hp,HD.o];rfl);have HT:=Hd (show TxC 47 (⟨#[97]⟩ ++ dg) x p by rw [hp];exact fun w=>jL _ x w);clear hp;have s0:=(HB.o.cell (p:=ad.add k) (by rw [ak];omega)).trans HS0.o;go_upto_region 5 with fail;have BD:=Hd (Below.refl wr.heap.size wr).drew;refine wp_region_held_drew (S:=(fun W' =>W'.cell? (ad.add k)=some (.string x))) (by kernel_rfl) (by exact s0) (fun hHeld=>?_);have O5:=Hd (HO.o.below BD.o);have B5:=Hd (aa HB.o BD.o);clear BD HO HB s0;generalize wr.drew=wd at *;refine tk hHeld 0 ?_ ?_ (tk hHeld 1 ?_ ?_ (tk hHeld 4 ?_ ?_ (tk hHeld 5 ?_ ?_ (tk hHeld 6 ?_ ?_ (tk hHeld 7 ?_ ?_ ?_)))));iterate 6
     rotate_left
     · intro w hSw;have hl:=hSw;go_simp;first | (with_reducible rfl) | (rw [if_neg (by first | omega | (simp;omega))])
   refine rdy1 2 (fun K hK=>?_);go_simp;go_at_call 93;refine (Tryz.strconv_Itoa_small k (by omega) wd).mono ?_;rintro e w9 ⟨rfl,e9⟩;subst e9;rw [← HDG.o];go_simp;refine hK.o _ _ hHeld (fun hHeld=>?_);clear hK K;have z1:¬ (9223372036854775807 < 1+dg.size):=(by omega);have z2:¬ (9223372036854775807 < (⟨#[97]⟩:ByteArray).size+dg.size):=(by show ¬ (9223372036854775807 < 1+dg.size);omega);refine tk hHeld 3 ?_ ?_ ?_;rotate_left
   · intro w hSw;go_simp;first | (with_reducible rfl) | (rw [if_neg (by first | omega | (simp;omega))])
   clear z1 z2;refine rdy1 8 (fun K hK=>?_);go_simp;go_at_call 47;refine (HT.o _).mono ?_;rintro e w4 ⟨rfl,hb⟩;have hh:=(hb.cell (p:=ad.add k) (by rw [ak];have:=B5.o.size;omega)).trans hHeld;have O6:=Hd (O5.o.below hb);have B6:=Hd (aa B5.o hb);clear hb O5 B5;go_simp;refine hK.o _ _ hh (fun hHeld=>?_);clear hK K hh;refine rdy1 9 (fun K hK=>?_);have BA:=Hd ((Below.refl w4.heap.size w4).alloc (Nat.le_refl _) (.cells #[.string p.nm, .int .i64 p.kd, .int .i64 p.nu, .string p.tx] 79));have hh:=(BA.o.cell (p:=ad.add k) (by rw [ak];have:=B6.o.size;omega)).trans hHeld;have O7:=Hd (O6.o.below BA.o);have B7:=Hd (aa B6.o BA.o);have RW:=Hd (aI EP w4 #[.string p.nm, .int .i64 p.kd, .int .i64 p.nu, .string p.tx] 79 p rfl (Nat.lt_succ_self w4.heap.size));go_simp;refine hK.o _ _ hh (fun hHeld=>?_);clear hK K hh O6 B6 BA;refine rdy1 10 (fun K hK=>?_);refine aQ EP (by rfl) (.tmp 21) (.tmp 30) (by rfl) w.heap.size (.slice A0 n0 c0) (pq args k) (by rfl) O7.o (w4.heap.size+1) (some ⟨w4.heap.size,0,none⟩) 1 1 [p] (by rfl) (by rfl) RW.o (by rw [HKL.o];simp;omega) B7.o.size ?_;intro v8 w8 ho8 hg8 um;have B8:=Hd (B7.o.grown hg8 B7.o.size (fun q e=>O7.o.ge q e));have hh:w8.cell? (ad.add k)=some (.string x):=(hg8.cell_far _ (by rw [ak];have:=B7.o.size;omega) (by rw [ak];intro e;have:=O7.o.ge _ e.symm;omega)).trans hHeld;have ho9:ax EP w8 w.heap.size v8 (pq args (k+1)):=(by rw [HNX.o, ← HP.o];exact ho8);obtain ⟨A8,c8,e8,_⟩:=ho9.at;subst e8;generalize (pq args (k+1)).length=l8 at *;have O8:=Hd ho9;refine hK.o _ _ hh (fun hHeld=>?_);clear hK K hh hg8 um ho8 ho9;refine tk hHeld 11 ?_ ?_ ?_;rotate_left
   · intro w hSw;go_simp;first | (with_reducible rfl) | (rw [if_neg (by first | omega | (simp;omega))])
   refine wpAnyH_done (by kernel_rfl) ?_ _;go_simp;obtain ⟨q7,q8⟩:=bg (show k≤1000000 by omega) (Nat.le_refl _);go_wp2_with fail;clear q7 q8;go_roundw;case rel=>exact ⟨k+1,_,_,_,hlt,rfl,by go_num,O8,B8⟩
   case measure=>exact aL hlt _ rfl
  case neg=>
   obtain rfl:k=j:=(by omega);have kj:¬ (k:Int) < (k:Int):=(by omega);obtain ⟨A9,c9,e9,hat⟩:=HO.o.at;injection e9 with e1 e2 e3;subst e1 e2 e3;have HKL:=Hd (wH args k hjn);have HAT:=Hd hat;clear hat;generalize hl9:(pq args k).length=l9 at *;have HL9:=Hd hl9;clear hl9;go_wp2_with fail;refine (wF m base g L 1309 A0 l9 c0 (pq args k) HL9.o.symm (by have:=HKL.o;omega) HLL.o _ (HE.o.below HB.o) HAT.o).mono ?_;rintro e w3 ⟨rfl,hez,hbz,hkp⟩;go_wp2_with fail
   go_end0
   rw [HEX.o,HJ.o];exact ⟨rfl,hez,(HB.o.mono (by omega)).trans hbz,fun k t cs ht hkg hk=>hkp k t cs ht hkg (hk.below HB.o)⟩
end Go.Proofs.YtollifnnpihfdaaGreatDoor
namespace Go.Proofs.YtollifnnpihfdaaGreatDoor
open Go.RowKit
theorem pI (l:List UInt8):Lib.hasSuffix l [47]=(l.getLast? == some 47):=by
 unfold Lib.hasSuffix;rcases List.eq_nil_or_concat l with h | ⟨r,a,h⟩
 · subst h;rfl
 · rw [h,List.concat_eq_append,List.getLast?_append];by_cases ha:a=47
   · subst ha;have: [47] <:+r ++ [47]:=List.suffix_append _ _;simp [this]
   · have hn:¬ [47] <:+r ++ [a]:=fun hs=>by
      obtain ⟨q,e⟩:=hs;have:=congrArg List.getLast? e;simp at this;exact ha this.symm
     have h1:List.isSuffixOf [47] (r ++ [a])=false:=by
      cases hq:List.isSuffixOf [47] (r ++ [a]) with
      | false=>rfl
      | true=>exact absurd (List.isSuffixOf_iff_suffix.1 hq) hn
     rw [h1];simp;intro h2;exact ha h2
theorem wX (d n:ByteArray):eQ d n=if Lib.hasSuffix d.data.toList [47]=true then d ++ n else d ++ ⟨#[47]⟩ ++ n:=by
 unfold eQ;rw [pI];by_cases h:0 < d.size
 · rw [decide_eq_true h,Bool.true_and]
 · have hd:d.data.toList= []:=List.eq_nil_of_length_eq_zero (by rw [Array.length_toList];show d.size=0;omega);rw [decide_eq_false h,hd];rfl
theorem Hm (d nm:ByteArray) (hd:d.size≤100000000) (hn:nm.size≤2000) (w:World):
  Calls Tryz.prog 99 #[.string d, .string nm] w fun e w' =>e= .returned (.string (eQ d nm))∧w=w' :=by
 have HJ:=Hd (wX d nm);have hs1:(d.size:Int)+(nm.size:Int)≤100002000:=by omega
 have hs2:d.size+nm.size≤100002000:=by omega
 have HS:=Hd (Tryz.strings_HasSuffix d ⟨#[47]⟩ w (by omega));go_in;go_wp2_with fail;refine HS.o.mono ?_;rintro e w1 ⟨rfl,rfl⟩;cases hb:Lib.hasSuffix d.data.toList [47] with
 | true=>
  have HR:=Hd (HJ.o.trans (if_pos hb));clear HJ;go_wp2_with fail;go_ret;exact ⟨by rw [HR.o];rfl,rfl⟩
 | false=>
  have HR:=Hd (HJ.o.trans (if_neg (by rw [hb];decide)));clear HJ;go_wp2_with fail;go_ret;exact ⟨by rw [HR.o];rfl,rfl⟩
open Go.RowKit Go.Shelf
attribute [local go_sem] Oper.semAt_some
theorem Dl (v:Array Value) (hv:v.size=2) (dev ino:Int) (w:World):Calls Tryz.prog 97 #[.agg v,flV dev ino] w fun e w' =>e= .returned (.func (.func 160) #[] #[.pointer (some ⟨w.heap.size,0,none⟩), .pointer (some ⟨w.heap.size+1,0,none⟩)])∧w' =(w.alloc (.cells v 31)).alloc (.cells #[.int .i64 dev, .int .i64 ino] 44):=by
 go_in
 go_wp2
 go_ret;exact ⟨rfl,rfl⟩
theorem bI.block {w w' :World} {base:Nat} {v:Value} {L:List ByteArray} (h:bI w base v L) (hb:∀ g,v.ownBlock=some g→w'.heap[g]? =w.heap[g]?):bI w' base v L:=by
 refine ⟨h.1,?_⟩;rcases h.2 with hn | ⟨g,cap,cur,rfl,hb1,hgg,rest⟩
 · exact .inl hn
 · refine .inr ⟨g,cap,cur,rfl,hb1,?_,rest⟩;rw [hb g rfl];exact hgg
theorem Blk.obj {w:World} {g l:Nat} {t:TypeId} {cs:Array Value} (h:Blk w g t cs) {o:Obj} (o' :Obj) (ho:w.heap[l]? =some o) (hc:o.isCells=false):Blk (w.putObj l o') g t cs:=by
 have hne:l≠g:=fun e=>by
  subst e;have h' :w.heap[l]? =some (.cells cs t (0,0)):=h;rw [ho] at h';injection h' with h';rw [h'] at hc;cases hc
 exact (World.putObj_heap_other hne.symm).trans h
theorem KpB.refl (D:Nat) (g:Option Nat) (W:World):KpB D g W W:=fun _ _ _ h _=>h
theorem sF {f:List Dv} (h:FOk f) (l:List (Int×Int)):∀ s∈jE f l,s.size≤12:=fun s hs=>by
 obtain ⟨x,_,rfl⟩:=List.mem_map.1 hs;exact jw h x.1 x.2
theorem qx (L:List ByteArray) (h:∀ x∈L,x.size≤12):(iF L).size≤1+13 * L.length:=ek L ⟨#[47]⟩ h
theorem Blk.wY {X Y:World} {b:Nat} {t:TypeId} {cs:Array Value} {row:Option Nat} (h:Blk X b t cs) (hg:X.grownBy Y row) (hr:∀ r,row=some r→∃ o:Obj,X.heap[r]? =some o∧o.isCells=false):Blk Y b t cs:=h.grown hg (fun e=>by
 obtain ⟨o,ho,hc⟩:=hr b e;rw [show X.heap[b]? =_ from h] at ho;cases ho;cases hc)
theorem KpB.setCell {D:Nat} {g:Option Nat} {W:World} {p:Addr} (v:Value) (hD:D≠p.block) (hg:∀ q,g=some q→q≠p.block):KpB D g W (W.setCell p v):=fun b o hb ho _=>by
 refine (heap_setCell_other W p b v ?_).trans ho;rcases hb with rfl | hb
 · exact hD
 · exact hg b hb.symm
theorem wZ {W:World} {base:Nat} {v:Value} {L:List ByteArray} (h:bI W base v L):∀ (j:Nat) (o:Obj),v.ownBlock=some j→W.heap[j]? =some o→o.isCells=true:=fun j o hj ho=>by
 rcases h.2 with ⟨rfl,_⟩ | ⟨g,cap,cur,rfl,hb1,hgg,_⟩
 · cases hj
 · have e:g=j:=Option.some.inj hj;subst e;rw [hgg] at ho;injection ho with ho;subst ho;rfl
theorem bI.NZ {W:World} {base G:Nat} {v:Value} {L:List ByteArray} {t:TypeId} {cs:Array Value} (h:bI W base v L) (hg:Blk W G t cs) (ht:(9:Nat)≠t) (u:Value):bI (W.setCell ⟨G,0,none⟩ u) base v L:=
 bI.block h (fun g e=>heap_setCell_other W ⟨G,0,none⟩ g u (fun e2=>by
  have e2:g=G:=e2;subst e2;rcases h.2 with ⟨rfl,_⟩ | ⟨g',cap,cur,rfl,hb1,hgg,_⟩
  · cases e
  · have e3:g' =g:=Option.some.inj e;subst e3;rw [show W.heap[g']? =_ from hg] at hgg;injection hgg with hgg;injection hgg with _ h2;exact ht h2.symm))
theorem mD {z:Int×Int} :∀ {q l:List (Int×Int)} {rest:List (Int×Int)},(∀ x∈q,x≠z)→(∀ x∈l,x≠z)→(q ++ [z]) ++ rest=l ++ [z]→q=l
 | [], [],_,_,_,_=>rfl
 | [],y :: l,_,_,h2,e=>by
  simp only [List.nil_append,List.cons_append] at e;injection e with e _;exact absurd e.symm (h2 y (List.mem_cons_self ..))
 | x :: q, [],_,h1,_,e=>by
  simp only [List.nil_append,List.cons_append] at e;injection e with e _;exact absurd e (h1 x (List.mem_cons_self ..))
 | x :: q,y :: l,rest,h1,h2,e=>by
  simp only [List.cons_append] at e;injection e with e1 e2;rw [e1,mD (fun a ha=>h1 a (List.mem_cons_of_mem _ ha)) (fun a ha=>h2 a (List.mem_cons_of_mem _ ha)) (rest:=rest) (by rw [← e2])]
theorem sG {W:World} {D H:Nat} {s:ByteArray} {b:Bool} (a1:Blk W (H+2) 9 #[.string s]) (a2:Blk W (H+3) 4 #[.bool b]) (hD:H+4≤D):
  (W.putObj D (.deferred none)).cell? ⟨H+1+1,0,none⟩=some (.string s)∧(W.putObj D (.deferred none)).cell? ⟨H+1+1+1,0,none⟩=some (.bool b):=by
 have e1:Blk (W.putObj D (.deferred none)) (H+2) 9 #[.string s]:=(World.putObj_heap_other (by omega)).trans a1;have e2:Blk (W.putObj D (.deferred none)) (H+3) 4 #[.bool b]:=(World.putObj_heap_other (by omega)).trans a2;exact ⟨e1.cell 0,e2.cell 0⟩
theorem zu (w:World) (s:ByteArray):bD (w.alloc (.cells #[.string s] 9)) (w.alloc (.cells #[.string s] 9)).heap.size (some ⟨w.heap.size,0,none⟩) [s]:=fun k hk=>by
 obtain rfl:k=0:=by simp at hk;omega
 exact ⟨_,rfl,by simp,(Blk.new w #[.string s] 9).cell 0⟩
def VWh (v0:Value) (s:ByteArray) (j:Nat) (v:Value) (W:World):Prop:=match j with
 | 0=>v=v0
 | 3=>v= .string s
 | 4=>∃ g:Nat,v= .slice (some ⟨g,0,none⟩) 1 1∧bD W W.heap.size (some ⟨g,0,none⟩) [s]
 | _=>True
theorem VWh.below {v0:Value} {s:ByteArray} {A B:World} (hb:Below A.heap.size A B) (j:Nat) (x:Value) (h:VWh v0 s j x A):VWh v0 s j x B:=by
 unfold VWh at h ⊢;split at h <;> first | exact h | (obtain ⟨g,h1,h2⟩:=h;exact ⟨g,h1,(h2.keep hb (Nat.le_refl _)).more hb.size⟩)
structure NmI (w:World) (H:Nat) (W0:World) (g:Nat) (xs:List BkS) (W:World):Prop where
 oth:KeepsOthers W0 W
 low:Below H w W
 R1:Blk W (H+2) 9 #[.string ⟨#[]⟩]
 R2:Blk W (H+3) 4 #[.bool false]
 box:Blk W g 9 #[.string (iF (bkT xs))]
theorem NmI.own {w W0:World} {H g B:Nat} (hB:W0.heap.size≤B) (hH:H≤B:=by omega):OwnFrom B (NmI w H W0 g):=fun s X Y row hs hg hr=>by
 have hr' :∀ r,row=some r→∃ o:Obj,X.heap[r]? =some o∧o.isCells=false:=fun r e=>(hr r e).2;refine ⟨⟨Nat.le_trans hs.oth.size hg.size,fun k o hk ho=>?_⟩,⟨hg.os.trans hs.low.os,hg.tape.trans hs.low.tape,hg.output.trans hs.low.output,Nat.le_trans hs.low.size hg.size,fun i hi=>?_⟩,hs.R1.wY hg hr',hs.R2.wY hg hr',hs.box.wY hg hr'⟩
 · have hX:=hs.oth.same k o hk ho;refine (hg.block k (Array.getElem?_eq_some_iff.1 hX).1 (fun e=>?_)).trans hX;have h1:=(hr k e.symm).1;have h2:=(Array.getElem?_eq_some_iff.1 hk).1;omega
 · have h3:=hs.R1.lt;refine (hg.block i (by omega) (fun e=>?_)).trans (hs.low.block i hi);have h1:=(hr i e.symm).1;omega
structure WhI (w:World) (H G:Nat) (sv:Array Value) (f:List Dv) (pre:List (Int×Int)) (W:World):Prop where
 low:Below H w W
 V:Blk W H 31 sv
 R1:Blk W (H+2) 9 #[.string ⟨#[]⟩]
 R2:Blk W (H+3) 4 #[.bool false]
 N:∃ v,Blk W G 49 #[v]∧bI W (G+3) v (jE f pre)
 no:∀ x∈pre,x≠(0,1)
 hG:H+4≤G
structure WhR (w:World) (H G:Nat) (f:List Dv) (c:Code) (pre:List (Int×Int)) (W:World):Prop where
 ret:c= .ret
 low:Below H w W
 ans:∃ q,pre=q ++ [(0,1)]∧(∀ x∈q,x≠(0,1))∧Blk W (H+2) 9 #[.string (iF (jE f q).reverse)]
 R2:Blk W (H+3) 4 #[.bool true]
 hG:H+4≤G
section
variable {w A B:World} {H G:Nat} {sv:Array Value} {f:List Dv} {pre:List (Int×Int)} {c:Code}
theorem WhI.mid (h:WhI w H G sv f pre A) (hm:Mid (G+1) (G+3) A B):WhI w H G sv f pre B:=by
 obtain ⟨v,h1,h2⟩:=h.N;have:=h.hG;exact ⟨h.low.trans (hm.low.mono (by omega)),h.V.keep hm.low (by omega),h.R1.keep hm.low (by omega),h.R2.keep hm.low (by omega),⟨v,h1.keep hm.low (by omega),h2.block fun g hg=>hm.high g (World.ownsRow.lt h2 g hg).1 (World.ownsRow.lt h2 g hg).2⟩,h.no,h.hG⟩
theorem WhR.mid (h:WhR w H G f c pre A) (hm:Mid (G+1) (G+3) A B):WhR w H G f c pre B:=by
 obtain ⟨q,h1,h2,h3⟩:=h.ans;have:=h.hG;exact ⟨h.ret,h.low.trans (hm.low.mono (by omega)),⟨q,h1,h2,h3.keep hm.low (by omega)⟩,h.R2.keep hm.low (by omega),h.hG⟩
theorem WhI.obj (h:WhI w H G sv f pre A) {l:Nat} {o:Obj} (o' :Obj) (hl:H≤l) (ho:A.heap[l]? =some o) (hc:o.isCells=false):WhI w H G sv f pre (A.putObj l o'):=by
 obtain ⟨v,h1,h2⟩:=h.N;exact ⟨h.low.trans (jd A o' hl (Array.getElem?_eq_some_iff.1 ho).1),h.V.obj o' ho hc,h.R1.obj o' ho hc,h.R2.obj o' ho hc,⟨v,h1.obj o' ho hc,ownsRow_putObj h2 o' ho hc⟩,h.no,h.hG⟩
theorem WhR.obj (h:WhR w H G f c pre A) {l:Nat} {o:Obj} (o' :Obj) (hl:H≤l) (ho:A.heap[l]? =some o) (hc:o.isCells=false):WhR w H G f c pre (A.putObj l o'):=by
 obtain ⟨q,h1,h2,h3⟩:=h.ans;exact ⟨h.ret,h.low.trans (jd A o' hl (Array.getElem?_eq_some_iff.1 ho).1),⟨q,h1,h2,h3.obj o' ho hc⟩,h.R2.obj o' ho hc,h.hG⟩
end
structure WhX (H:Nat) (hi:Nat) (fr:Nat→Value→Act) (x:Int×Int) (a:Act) (W:World):Prop where
 ex:∃ g,a=fr g (flV x.1 x.2)∧Blk W g 44 #[.int .i64 x.1, .int .i64 x.2]∧hi≤g
theorem xg (ds:List Dm) (A:Option Addr) (n c:Nat) (hn:n=ds.length) (ms:List Mt) (Am:Option Addr) (nm cm:Nat) (hnm:nm=ms.length) (hl:nm≤1000) (hok:FOk (ds.map Dm.dv)) {k:Nat} {dev ino:Int} {L:List ByteArray} (h:lh (ds.map Dm.dv) ms k dev ino L) (hk:k≤xz (ds.map Dm.dv)) (hk9:k≤1000)
  (Me:bK (ds.map Dm.dv) dev ino=true) (hmt:fq ms dev=true) (w:World) (hf:bZ w w.heap.size A ds) (hm:AtE EMt w w.heap.size Am ms):
  Calls Tryz.prog 49 #[.agg #[slV A n c,slV Am nm cm],flV dev ino] w (WhP (iF L) true w):=by
 have OM:Tryz.prog.follows .mixedOrders=true:=by kernel_rfl
 obtain ⟨H,hH⟩:∃ H,w.heap.size=H:=⟨_,rfl⟩;obtain ⟨w0,hw0⟩:∃ w0,w0=(((w.alloc (.cells #[slV A n c,slV Am nm cm] 31)).alloc (.cells #[.int .i64 dev, .int .i64 ino] 44)).alloc (.cells #[.string ⟨#[]⟩] 9)).alloc (.cells #[.bool false] 4):=⟨_,rfl⟩;have B0:Below H w w0:=by rw [hw0, ← hH];exact ((((Below.refl _ _).alloc (Nat.le_refl _) _).alloc (by simp) _).alloc (by simp;omega) _).alloc (by simp;omega) _
 have hs0:w0.heap.size=H+4:=by rw [hw0, ← hH];simp
 have V0:Blk w0 H 31 #[slV A n c,slV Am nm cm]:=by rw [hw0, ← hH];exact (((Blk.new w _ _).alloc _).alloc _).alloc _
 have U0:Blk w0 (H+1) 44 #[.int .i64 dev, .int .i64 ino]:=by
  have:=Blk.new (w.alloc (.cells #[slV A n c,slV Am nm cm] 31)) #[.int .i64 dev, .int .i64 ino] 44;simp only [World.size_alloc,hH] at this;rw [hw0];exact (this.alloc _).alloc _
 have R1:Blk w0 (H+2) 9 #[.string ⟨#[]⟩]:=by
  have:=Blk.new ((w.alloc (.cells #[slV A n c,slV Am nm cm] 31)).alloc (.cells #[.int .i64 dev, .int .i64 ino] 44)) #[.string ⟨#[]⟩] 9;simp only [World.size_alloc,hH] at this;rw [hw0];exact this.alloc _
 have R2:Blk w0 (H+3) 4 #[.bool false]:=by
  have:=Blk.new (((w.alloc (.cells #[slV A n c,slV Am nm cm] 31)).alloc (.cells #[.int .i64 dev, .int .i64 ino] 44)).alloc (.cells #[.string ⟨#[]⟩] 9)) #[.bool false] 4;simp only [World.size_alloc,hH] at this;rw [hw0];exact this
 have F0:=hf.keep B0 (by omega);have M0:=hm.keep B0 (by omega);have HN:=Hd hn;have HNM:=Hd hnm;clear hn hnm;refine (callsIn_wide (n:=20)).1 ?_;refine callsIn_of_wp_marks Tryz.func49 rfl trivial ?_ rfl;simp only [Tryz.ntmps49,List.size_toArray,List.length_cons,List.length_nil,Nat.reduceAdd,Nat.reduceSub,Array.replicate_succ,Array.replicate_zero,List.push_toArray,List.append_toArray,List.nil_append,List.cons_append]
 gi_wp2_with fail
 rw [← hw0];clear hw0;refine ⟨trivial,(callsIn_wide.2 (AL dev ino ds A n c HN.o (slV Am nm cm) w0 (F0.more (by omega)))).mono ?_⟩;rw [Me];rintro en w1 ⟨rfl,hb1⟩;have V1:=V0.below hb1;have U1:=U0.below hb1;have R11:=R1.below hb1;have R21:=R2.below hb1;have F1:=F0.keep hb1 (by omega);have M1:=M0.keep hb1 (by omega);have B1:Below H w w1:=B0.trans (hb1.mono (by omega));have hs1:H+4≤w1.heap.size:=by have:=hb1.size;omega
 clear hb1 V0 U0 R1 R2 F0 M0 B0 hs0 w0 Me;have u0:=U1.cell 0;have v0:=V1.cell 0;have v1:=V1.cell 1
 gi_wp2_with fail
 clear u0 v0 v1;refine ⟨trivial,(callsIn_wide.2 (Hf dev (slV A n c) ms Am nm cm HNM.o hl w1 (M1.more (by omega)))).mono ?_⟩;rw [hmt];rintro en w2 ⟨rfl,hb1⟩;have V2:=V1.below hb1;have U2:=U1.below hb1;have R12:=R11.below hb1;have R22:=R21.below hb1;have F2:=F1.keep hb1 (by omega);have M2:=M1.keep hb1 (by omega);have B2:Below H w w2:=B1.trans (hb1.mono (by omega));have hs2:H+4≤w2.heap.size:=by have:=hb1.size;omega
 clear hb1 V1 U1 R11 R21 F1 M1 B1 hs1 w1 hmt;have v0:=(V2.alloc (.cells #[.slice none 0 0] 49)).cell 0;have v1:=(V2.alloc (.cells #[.slice none 0 0] 49)).cell 1;have u0:=(U2.alloc (.cells #[.slice none 0 0] 49)).cell 0;have u1:=(U2.alloc (.cells #[.slice none 0 0] 49)).cell 1
 gi_wp2_with fail
 clear u0 u1 v0 v1;refine ⟨trivial,(callsIn_wide.2 (Dl #[slV A n c,slV Am nm cm] rfl dev ino _)).mono ?_⟩;rintro en w3 ⟨rfl,hw3⟩;obtain ⟨G,hG⟩:∃ G,w2.heap.size=G:=⟨_,rfl⟩;rw [World.size_alloc,hG];have hs3:w3.heap.size=G+3:=by rw [hw3, ← hG];simp
 have b23:Below G w2 w3:=by rw [hw3, ← hG];exact (((Below.refl _ _).alloc (Nat.le_refl _) _).alloc (by simp) _).alloc (by simp;omega) _
 have hI0:WhI w H G #[slV A n c,slV Am nm cm] (ds.map Dm.dv) [] w3:=by
  refine ⟨B2.trans (b23.mono (by omega)),V2.keep b23 (by have:=V2.lt;omega),R12.keep b23 (by have:=R12.lt;omega),R22.keep b23 (by have:=R22.lt;omega),⟨.slice none 0 0,?_,bI.nil _ _⟩,(fun x hx=>by cases hx),by omega⟩;rw [hw3, ← hG];exact ((Blk.new w2 _ _).alloc _).alloc _
 have hC0:ChS w3 w3 H (G+1) A n c ds Am nm cm ms dev ino:=by
  refine ⟨?_,?_,F2.keep b23 (by omega) |>.more (by omega),M2.keep b23 (by omega) |>.more (by omega),by omega⟩
  · have:=Blk.new (w2.alloc (.cells #[.slice none 0 0] 49)) #[slV A n c,slV Am nm cm] 31;simp only [World.size_alloc,hG] at this;rw [hw3];exact this.alloc _
  · have:=Blk.new ((w2.alloc (.cells #[.slice none 0 0] 49)).alloc (.cells #[slV A n c,slV Am nm cm] 31)) #[.int .i64 dev, .int .i64 ino] 44;simp only [World.size_alloc,hG] at this;rw [hw3];exact this
 obtain ⟨l0,hch,hlen,hl0,hL⟩:=h.chn;have hGH:H+4≤G:=by omega
 clear hw3 b23 V2 U2 R12 R22 F2 M2 B2 hs2
 gi_wp2
 refine pG (lo:=G+1) (hi:=G+1+2) rfl (by decide) (gf:=160) (lb:=#[.pointer (some ⟨G+1,0,none⟩), .pointer (some ⟨G+1+1,0,none⟩)]) rfl trivial (enters_of Tryz.func160 (by kernel_rfl) rfl)
  (by omega) (by omega) (jD H (G+1)) (fun h k=>h.trans k) (fun A l o o' hl ho hc=>jD.obj A l o o' (by omega) ho hc)
  (wU (20 - 1) (G+1) H (by decide) ds A n c HN.o ms Am nm cm HNM.o hl dev ino _ hch (by rw [hlen];exact hk) w3 hC0) rfl
  (WhI w H G #[slV A n c,slV Am nm cm] (ds.map Dm.dv)) (WhR w H G (ds.map Dm.dv)) (fun _ _ _ h hb=>h.mid hb) (fun _ _ _ _ h hb=>h.mid hb) (fun _ _ l o o' h hl ho hc=>h.obj o' (by omega) ho hc) (fun _ _ _ l o o' h hl ho hc=>h.obj o' (by omega) ho hc) hI0
  (WhX H (G+3) (fun g v=> { tmps:=#[Value.agg #[slV A n c,slV Am nm cm],flV dev ino,Value.pointer (some { block:=H,off:=0 }),
        Value.pointer (some { block:=H+1,off:=0 }),Value.pointer (some { block:=H+1+1,off:=0 }),
        Value.pointer (some { block:=H+1+1+1,off:=0 }),Value.pointer (some { block:=G,off:=0 }),
        Value.pointer (some { block:=g,off:=0 }),undef,undef,undef,
        Value.agg #[slV A n c,slV Am nm cm],Value.agg #[Value.int IntKind.i64 dev,Value.int IntKind.i64 ino],
        Value.bool true,Value.bool false,Value.bool false,Value.agg #[slV A n c,slV Am nm cm],
        Value.pointer (some { block:=H+1,off:=0 }),Value.int IntKind.i64 dev,Value.bool true,
        Value.bool false,Value.bool false,Value.agg #[slV A n c,slV Am nm cm],
        Value.agg #[Value.int IntKind.i64 dev,Value.int IntKind.i64 ino],
        Value.func (Fn.func 160) #[]
          #[Value.pointer (some { block:=G+1,off:=0 }),Value.pointer (some { block:=G+1+1,off:=0 })],
        v,undef,undef,undef,undef,undef,undef,undef,undef,undef,undef,undef,undef,undef,
        undef,undef,undef,undef,undef,undef,undef,undef,undef],defers:= [] })) (fun x a' A l o o' h ho hc=>by obtain ⟨g,h1,h2,h3⟩:=h.ex;exact ⟨g,h1,h2.obj o' ho hc,h3⟩) ?assign ?body ?done ?stop
 case assign=>
  intro l pre x W K hI hhi hK
  gi_wp2
  have hb:=(Below.refl W.heap.size W).alloc (Nat.le_refl _) (.cells #[.int .i64 x.1, .int .i64 x.2] 44);exact hK _ _ (KeepsOthers.alloc _ _) (jD.below hb (by omega)) (hI.mid (fP hb (by omega))) ⟨⟨W.heap.size,rfl,Blk.new W _ _,by omega⟩⟩
 case body=>
  rintro l pre x a' W - hI hX ⟨r,hr⟩ hl hhi hlen;obtain ⟨g,rfl,hX,hg⟩:=hX.ex;obtain ⟨xd,xi⟩:=x;have x0:=hX.cell 0;have x1:=hX.cell 1;have hn1:1≤20 - 1 - 1:=by decide
  by_cases hx:xd=0∧xi=1
  · obtain ⟨rfl,rfl⟩:=hx;obtain ⟨v,hN,hO⟩:=hI.N;have HX:=Hd hX;have HI:=Hd hI;have n0:(W.alloc (.cells #[.string ⟨#[47]⟩] 9)).cell? ⟨G,0,none⟩=some v:=(hN.alloc (.cells #[.string ⟨#[47]⟩] 9)).cell 0;have n1:W.cell? ⟨G,0,none⟩=some v:=hN.cell 0;have n2:G < W.heap.size:=hN.lt;have n3:G≠W.heap.size:=(by omega);obtain ⟨A1,c1,rfl,hst⟩:=hO.strs;have HST:=Hd hst;have HAB:=Hd (show ∀ q,(A1.map Addr.block)=some q→q < W.heap.size from fun q hq=>by
      cases A1 with
      | none=>cases hq
      | some ad=>exact (World.ownsRow.lt hO q (by rw [← hq];rfl)).2)
    have HLN:=Hd (show (jE (ds.map Dm.dv) pre).length≤1000 by
      have h1:(jE (ds.map Dm.dv) pre).length≤pre.length:=(by unfold jE;rw [List.length_map];exact List.length_filter_le _ _);omega)
    have KH:=Hd (sF hok pre);have N7:=Hd (show ∀ x∈pre,x≠(0,1) from hI.no);have HRI:=Hd (And.intro hI.low (And.intro hI.R1 hI.R2));generalize hLL:jE (ds.map Dm.dv) pre=LL at *;have HLL:=Hd hLL;clear hI hX hO hst hLL
    gi_wp2_with fail
    refine ⟨trivial,CallsIn.inRound l ((callsIn_wide.2 (Hl A1 LL.length c1 _)).mono ?_)⟩;rintro en w3 ⟨rfl,hw3⟩;rw [World.size_alloc];have bW3:Below W.heap.size W w3:=(by rw [hw3];exact ((Below.refl _ _).alloc (Nat.le_refl _) _).alloc (by simp) _);have hs3:w3.heap.size=W.heap.size+1+1:=(by rw [hw3];simp);have WB:=Hd (show Blk w3 W.heap.size 9 #[.string ⟨#[47]⟩] by rw [hw3];exact (Blk.new W _ _).alloc _);have hD3:Blk w3 (W.heap.size+1) 49 #[.slice A1 LL.length c1]:=by
      have:=Blk.new (W.alloc (.cells #[.string ⟨#[47]⟩] 9)) #[.slice A1 LL.length c1] 49;rw [World.size_alloc] at this;rw [hw3];exact this
    have hl3:w3.heap[l]? =some (.loop r):=(bW3.block l (Array.getElem?_eq_some_iff.1 hr).1).trans hr;have HK3:=Hd (show KeepsOthers W w3 by rw [hw3];exact (KeepsOthers.alloc _ _).trans (KeepsOthers.alloc _ _));have HR3:=Hd (And.intro (HRI.o.1.trans (bW3.mono (by omega))) (And.intro (HRI.o.2.1.below bW3) (HRI.o.2.2.below bW3)));clear hw3 HRI HX HI n0 n1
    gi_wp2
    refine wpIn_rangeFunc_ownN (l₀:=l) rfl hl3 (by decide) (gf:=161) (lb:=#[.pointer (some ⟨W.heap.size+1,0,none⟩)]) rfl trivial (enters_of Tryz.func161 (by kernel_rfl) rfl)
      (SeqStopsK.inRound l (zt _ (W.heap.size+1) (by decide) A1 LL.length c1 LL rfl (by have:=HLN.o;omega) KH.o W.heap.size w3 hD3 (by omega) (HST.o.keep bW3 (Nat.le_refl _))))
      (fun h k=>h.trans k) (fun W' l' o o' _ h1 h2 _=>KpB.obj W' l' o o' h1 h2) (Below.refl _ _) (fun _=>rfl)
      (fun xs W' =>NmI w H W W.heap.size xs W') (fun _ _ _=>False) (NmI.own (by omega)) (fun _ _ _ _ _ h _ _=>h) ⟨HK3.o,HR3.o.1,HR3.o.2.1,HR3.o.2.2,WB.o⟩
      (fun x a' _=>a' = { tmps:=#[Value.agg #[slV A n c,slV Am nm cm],flV dev ino,Value.pointer (some { block:=H,off:=0 }),
           Value.pointer (some { block:=H+1,off:=0 }),
           Value.pointer (some { block:=H+1+1,off:=0 }),
           Value.pointer (some { block:=H+1+1+1,off:=0 }),
           Value.pointer (some { block:=G,off:=0 }),Value.pointer (some { block:=g,off:=0 }),
           Value.pointer (some { block:=W.heap.size,off:=0 }),undef, .string x.1.2,
           Value.agg #[slV A n c,slV Am nm cm],Value.agg #[Value.int IntKind.i64 dev,Value.int IntKind.i64 ino],
           Value.bool true,Value.bool false,Value.bool false,Value.agg #[slV A n c,slV Am nm cm],
           Value.pointer (some { block:=H+1,off:=0 }),Value.int IntKind.i64 dev,Value.bool true,
           Value.bool false,Value.bool false,Value.agg #[slV A n c,slV Am nm cm],
           Value.agg #[Value.int IntKind.i64 dev,Value.int IntKind.i64 ino],
           Value.func (Fn.func 160) #[]
            #[Value.pointer (some { block:=G+1,off:=0 }),
             Value.pointer (some { block:=G+1+1,off:=0 })],
           flV 0 1,Value.bool true,Value.agg #[Value.int IntKind.i64 0,Value.int IntKind.i64 1],
           Value.agg #[Value.int IntKind.i64 0,Value.int IntKind.i64 1],Value.bool true, .slice A1 LL.length c1, .func (.func 161) #[] #[.pointer (some ⟨W.heap.size+1,0,none⟩)], .int .i64 x.1.1, .string x.1.2,
           undef,undef,undef,undef,undef,undef,undef,undef,undef,undef,undef,undef,undef,undef],defers:= [] }) (fun _ _=>ownFrom_pure _ _) ?as2 ?bo2 ?do2 ?st2
    case as2=>
      intro l2 Dn x2 W2 K2 hI2 hK2
      gi_wp2
      exact hK2 _ _ (KeepsFrom.refl _ _) (KpB.refl _ _ _) hI2 rfl
    case bo2=>
      intro l2 Dn x2 a2 W2 hl2 hr2 hI2 ha2 N8;subst ha2;have b0:=hI2.box.cell 0;have f0:=hI2.box.free 0;have HI2:=Hd hI2;have HSZ:=Hd (show (iF (bkT Dn)).size≤100000000 by
        have h1:=qx (bkT Dn) (wW Dn);have h2:(bkT Dn).length=Dn.length:=List.length_map ..;have:=HLN.o;omega)
      have HX2:=Hd x2.2;clear hI2
      gi_wp2_with fail
      refine ⟨trivial,CallsIn.inRound l2 (CallsIn.inRound l ((callsIn_wide.2 (Hm _ _ HSZ.o (by have:=HX2.o;omega) W2)).mono ?_))⟩;rintro e w4 ⟨rfl,rfl⟩
      gi_wp2_with fail
      exact ⟨(KeepsOthers.setCell _ _ _).from _,KpB.setCell (p:=⟨W.heap.size,0,none⟩) _ (by show W.heap.size+1≠W.heap.size;omega) (fun q hq=>by have:=HAB.o q hq;show q≠W.heap.size;omega),(HI2.o.oth).trans (KeepsOthers.setCell _ _ _),HI2.o.low.setCell (p:=⟨W.heap.size,0,none⟩) (by show H≤W.heap.size;omega) _,HI2.o.R1.af _ (by show H+2≠W.heap.size;omega),HI2.o.R2.af _ (by show H+3≠W.heap.size;omega),by
        have:=HI2.o.box.put 0 (.string (eQ (iF (bkT Dn)) x2.1.2));rw [wV,show bkT [x2]= [x2.1.2] from rfl,lT];exact this⟩
    case do2=>
      intro xs W2 hS hI2;have b0:=hI2.box.cell 0;have r1:=hI2.R1.cell 0;have f1:=hI2.R1.free 0;have r2:=hI2.R2.cell 0;have f2:=hI2.R2.free 0;rw [show bkT xs=LL.reverse from hS] at b0;have HI2:=Hd hI2;clear hI2 hS
      gi_wp2_with fail
      exact ⟨(HI2.o.oth.trans (KeepsOthers.setCell _ _ _)).trans (KeepsOthers.setCell _ _ _),rfl,(HI2.o.low.setCell (p:=⟨H+1+1,0,none⟩) (by show H≤H+1+1;omega) _).setCell (p:=⟨H+1+1+1,0,none⟩) (by show H≤H+1+1+1;omega) _,
        ⟨pre,rfl,N7.o,by rw [HLL.o];exact (HI2.o.R1.put 0 _).af _ (by show H+2≠H+1+1+1;omega)⟩,(HI2.o.R2.af (p:=⟨H+1+1,0,none⟩) _ (by show H+3≠H+1+1;omega)).put 0 _,hGH⟩
    case st2=>intro _ _ _ _ h;exact h.elim
  · have HNO:=Hd (show ∀ y∈pre ++ [(xd,xi)],y≠(0,1) from fun y hy=>by
      rcases List.mem_append.1 hy with hy | hy
      · exact hI.no y hy
      · rw [List.mem_singleton] at hy;subst hy;intro e;injection e with e1 e2;exact hx ⟨e1,e2⟩)
    by_cases hxi:xi=1
    · subst hxi;have b0:=(aN (fun h0:xd=0=>hx ⟨h0,rfl⟩)).1;clear hx
      gi_wp2_with fail
      exact ⟨KeepsOthers.refl _,⟨Below.refl _ _,fun _ _ _ _ _ h=>h⟩,hI.low,hI.V,hI.R1,hI.R2,by rw [rG,rF];simpa [jE] using hI.N,HNO.o,hI.hG⟩
    · have b1:=(aN hxi).2;have b0:=(aN hxi).1;have HXI:=Hd hxi;clear hxi hx
      gi_wp2_with fail
      clear x0 x1 b0 b1;obtain ⟨v,hN,hO⟩:=hI.N;have HI:=Hd hI;have HX:=Hd hX;have HO:=Hd hO;have HLEN:=Hd hlen;clear hI hX hO hlen;have HIN:=Hd (show bZ W W.heap.size A ds from (hf.keep HI.o.low (by omega)).more (by have:=HI.o.hG;have:=HI.o.V.lt;omega));have HVV:=Hd HI.o.V;have J0:=Hd (show Blk W.drew G 49 #[v]∧bI W.drew (G+3) v (jE (ds.map Dm.dv) pre)∧Below W.heap.size W W.drew from ⟨hN.below (Below.refl _ _).drew,bI.below HO.o (Below.refl _ _).drew,(Below.refl _ _).drew⟩);refine jg (fun W' =>Blk W' H 31 #[slV A n c,slV Am nm cm]∧Blk W' g 44 #[.int .i64 xd, .int .i64 xi]) (fun hlo=>by obtain ⟨_,_,h⟩:=hlo;exact h) rfl (by kernel_rfl) ⟨Blk.below HI.o.V (Below.refl _ _).drew,Blk.below HX.o (Below.refl _ _).drew⟩ (fun hHeld=>?_);refine tk hHeld 1 ?_ ?_ (tk hHeld 2 ?_ ?_ ?_);iterate 2
        rotate_left
        · intro W hSw;have s1:=hSw.1.cell 0;have s2:=hSw.1.cell 1;have s3:=hSw.2.cell 0;have s4:=hSw.2.cell 1;go_simp;try (with_reducible rfl)
      refine bq [0,3,4] [(0,42),(3,45),(4,46)] (fun W' =>Blk W' G 49 #[v]∧bI W' (G+3) v (jE (ds.map Dm.dv) pre)∧Below W.heap.size W W') (VWh v (dY (ds.map Dm.dv) xd xi)) (fun A B=>Below A.heap.size A B) 2 hHeld J0.o rfl (by kernel_rfl) (by kernel_rfl) (fun A B hb=>⟨fun h=>⟨Blk.below h.1 hb,Blk.below h.2 hb⟩,fun h=>⟨Blk.below h.1 hb,bI.below h.2.1 hb,aa h.2.2 hb⟩,fun j x h=>VWh.below hb j x h⟩) ?steps ?fin;case steps=>
        refine aZ.cons (i:=0) rfl (fun u W1 hSW hJW hpre K hK=>?_) ?_
        · dsimp only [bL,List.foldl];have s0:=hJW.1.cell 0;go_simp;exact hK.o v _ _ (by kernel_rfl) rfl (Below.refl _ _)
        refine aZ.cons (i:=3) rfl (fun u W1 hSW hJW hpre K hK=>?_) ?_
        · dsimp only [bL,List.foldl];go_simp;go_at_call 100;refine (Hg xd xi ds A n c HN.o (slV Am nm cm) W1 ((hf.keep (HI.o.low.trans (hJW.2.2.mono (by omega))) (by omega)).more (by have:=hJW.1.lt;have:=HI.o.hG;omega))).mono ?_;rintro e W2 ⟨rfl,hb⟩;go_simp;exact hK.o (.string (dY (ds.map Dm.dv) xd xi)) _ _ (by kernel_rfl) rfl hb
        refine aZ.cons (i:=4) rfl (fun u W1 hSW hJW hpre K hK=>?_) ?_
        · dsimp only [bL,List.foldl];have e0:u 3= .string (dY (ds.map Dm.dv) xd xi):=hpre 3 rfl (by kernel_rfl);rw [← oN e0] at hK;go_simp;exact hK.o (.slice (some ⟨W1.heap.size,0,none⟩) 1 1) _ _ (by kernel_rfl) ⟨W1.heap.size,rfl,zu W1 (dY (ds.map Dm.dv) xd xi)⟩ ((Below.refl _ _).alloc (Nat.le_refl _) _)
        exact aZ.nil
      case fin=>
      intro u W1 hHeld hJ hV;dsimp only [bL,List.foldl];have e0:u 0=v:=hV 0 rfl;obtain ⟨g4,e4,h4⟩:∃ g:Nat,u 4= .slice (some ⟨g,0,none⟩) 1 1∧bD W1 W1.heap.size (some ⟨g,0,none⟩) [dY (ds.map Dm.dv) xd xi]:=hV 4 rfl;simp only [e0,e4];have RW:=Hd h4;have HJ:=Hd hJ;clear h4 e0 e4 hV hJ J0;have HLN:=Hd (show (jE (ds.map Dm.dv) pre).length+1≤1000000 by
        have h1:(jE (ds.map Dm.dv) pre).length≤pre.length:=(by unfold jE;rw [List.length_map];exact List.length_filter_le _ _);have:=HLEN.o;omega)
      refine rdy1 5 (fun K hK=>?_);refine dN (by rfl) (.tmp 42) (.tmp 46) (by rfl) (G+3) v (jE (ds.map Dm.dv) pre) (by rfl) HJ.o.2.1 W1.heap.size (some ⟨g4,0,none⟩) 1 1 [dY (ds.map Dm.dv) xd xi] (by rfl) (by rfl) RW.o HLN.o (by have:=HJ.o.2.2.size;omega) ?_;intro v5 w5 ho5 hg5 Kg;have OS:=Hd (nk HJ.o.2.1);have hh:=And.intro (hHeld.1.grown hg5 (az OS.o hHeld.1 (by decide))) (hHeld.2.grown hg5 (az OS.o hHeld.2 (by decide)));have G5:=Hd (HJ.o.1.grown hg5 (az OS.o HJ.o.1 (by decide)));have HG5:=Hd hg5;have hoc:=ho5;obtain ⟨A5,c5,rfl,_⟩:=ho5.strs;have O5:=Hd hoc;generalize hl5:(jE (ds.map Dm.dv) pre ++ [dY (ds.map Dm.dv) xd xi]).length=l5 at *;clear hl5 hoc hg5 Kg ho5;refine hK.o _ _ hh (fun hHeld=>?_);clear hK K hh;have c0:=G5.o.cell 0;have f0:=G5.o.free 0;refine rdy1 6 (fun K hK=>?_);have hh:=And.intro (hHeld.1.af (p:=⟨G,0,none⟩) (.slice A5 l5 c5) (by show H≠G;omega)) (hHeld.2.af (p:=⟨G,0,none⟩) (.slice A5 l5 c5) (by show g≠G;omega));go_simp;refine hK.o _ _ hh (fun hHeld=>?_);clear hK K hh c0 f0;refine wpAnyH_done (by kernel_rfl) ?_ _;have HKO:=Hd (show KeepsOthers W w5 from (KeepsOthers.trans ⟨HJ.o.2.2.size,fun q o hq _=>(HJ.o.2.2.block q (Array.getElem?_eq_some_iff.1 hq).1).trans hq⟩ (KeepsOthers.of_grownBy HG5.o (wZ HJ.o.2.1))));have HB5:=Hd (show Below H W w5 from (HJ.o.2.2.mono (by have:=HI.o.hG;have:=HI.o.V.lt;omega)).grown HG5.o (by have:=HJ.o.1.lt;omega) (fun q e=>by have:=(World.ownsRow.lt HJ.o.2.1 q e).1;omega));go_wp2_with fail;refine ⟨HKO.o.trans (KeepsOthers.setCell _ _ _),⟨HB5.o.setCell (p:=⟨G,0,none⟩) (by show H≤G;omega) _,fun b hb t cs ht hq=>?_⟩,(HI.o.low.trans HB5.o).setCell (p:=⟨G,0,none⟩) (by show H≤G;omega) _,hHeld.1,?_,?_,⟨_,G5.o.put 0 _,?_⟩,HNO.o,HI.o.hG⟩
      · have q1:=hq.keep HJ.o.2.2 hq.lt;exact (q1.grown HG5.o (az OS.o q1 (fun e=>ht e.symm))).af _ (by show b≠G;omega)
      · have q1:=HI.o.R1.keep HJ.o.2.2 HI.o.R1.lt;exact (q1.grown HG5.o (fun e=>by have:=(World.ownsRow.lt HJ.o.2.1 _ e).1;omega)).af _ (by show H+2≠G;omega)
      · have q1:=HI.o.R2.keep HJ.o.2.2 HI.o.R2.lt;exact (q1.grown HG5.o (fun e=>by have:=(World.ownsRow.lt HJ.o.2.1 _ e).1;omega)).af _ (by show H+3≠G;omega)
      · rw [rG,pF _ HXI.o];exact bI.NZ O5.o G5.o (by decide) _
 case done=>
  rintro D xs W hD rfl hI hK;exact absurd rfl (hI.no (0,1) (by simp))
 case stop=>
  rintro D c pre W hD ⟨rest,hS⟩ hI hK;obtain ⟨q,rfl,hq,r1⟩:=hI.ans;have r2:=hI.R2;have hlow:=hI.low;obtain rfl:=hI.ret;obtain rfl:q=l0:=mD hq hl0 hS;have HLT:=Hd hL;clear hI hS
  gi_wp2
  obtain ⟨d1,d2⟩:=sG r1 r2 (show H+4≤D by omega);refine ⟨by simp, .inl ⟨_,_,rfl,run_takeDeferred hK,?_⟩⟩;refine ⟨.tuple #[.string (iF (jE (ds.map Dm.dv) q).reverse), .bool true],by simp [results,Tryz.results49,go_sem,d1,d2],by rw [HLT.o],?_⟩;rw [hH];exact hlow.trans (jd W _ (by omega) (Array.getElem?_eq_some_iff.1 hK).1)
end Go.Proofs.YtollifnnpihfdaaGreatDoor
namespace Go.Proofs.YtollifnnpihfdaaGreatDoor
open Go.RowKit
theorem pJ (ds:List Dm) (A:Option Addr) (n c:Nat) (hn:n=ds.length) (ms:List Mt) (Am:Option Addr) (nm cm:Nat) (hnm:nm=ms.length) (hl:nm≤1000) {dev ino:Int}
  (hno:(bK (ds.map Dm.dv) dev ino && fq ms dev)=false) (w:World) (hf:bZ w w.heap.size A ds) (hm:AtE EMt w w.heap.size Am ms):
  Calls Tryz.prog 49 #[.agg #[slV A n c,slV Am nm cm],flV dev ino] w (WhP ⟨#[]⟩ false w):=by
 obtain ⟨H,hH⟩:∃ H,w.heap.size=H:=⟨_,rfl⟩;obtain ⟨w0,hw0⟩:∃ w0,w0=(((w.alloc (.cells #[slV A n c,slV Am nm cm] 31)).alloc (.cells #[.int .i64 dev, .int .i64 ino] 44)).alloc (.cells #[.string ⟨#[]⟩] 9)).alloc (.cells #[.bool false] 4):=⟨_,rfl⟩;have B0:Below H w w0:=by rw [hw0, ← hH];exact ((((Below.refl _ _).alloc (Nat.le_refl _) _).alloc (by simp) _).alloc (by simp;omega) _).alloc (by simp;omega) _
 have hs0:w0.heap.size=H+4:=by rw [hw0, ← hH];simp
 have V0:Blk w0 H 31 #[slV A n c,slV Am nm cm]:=by rw [hw0, ← hH];exact (((Blk.new w _ _).alloc _).alloc _).alloc _
 have U0:Blk w0 (H+1) 44 #[.int .i64 dev, .int .i64 ino]:=by
  have:=Blk.new (w.alloc (.cells #[slV A n c,slV Am nm cm] 31)) #[.int .i64 dev, .int .i64 ino] 44;simp only [World.size_alloc,hH] at this;rw [hw0];exact (this.alloc _).alloc _
 have R1:Blk w0 (H+2) 9 #[.string ⟨#[]⟩]:=by
  have:=Blk.new ((w.alloc (.cells #[slV A n c,slV Am nm cm] 31)).alloc (.cells #[.int .i64 dev, .int .i64 ino] 44)) #[.string ⟨#[]⟩] 9;simp only [World.size_alloc,hH] at this;rw [hw0];exact this.alloc _
 have R2:Blk w0 (H+3) 4 #[.bool false]:=by
  have:=Blk.new (((w.alloc (.cells #[slV A n c,slV Am nm cm] 31)).alloc (.cells #[.int .i64 dev, .int .i64 ino] 44)).alloc (.cells #[.string ⟨#[]⟩] 9)) #[.bool false] 4;simp only [World.size_alloc,hH] at this;rw [hw0];exact this
 have F0:=hf.keep B0 (by omega);have M0:=hm.keep B0 (by omega);have HN:=Hd hn;have HNM:=Hd hnm;have HNO:=Hd hno;clear hn hnm hno;refine (callsIn_wide (n:=20)).1 ?_;refine callsIn_of_wp_marks Tryz.func49 rfl trivial ?_ rfl;simp only [Tryz.ntmps49,List.size_toArray,List.length_cons,List.length_nil,Nat.reduceAdd,Nat.reduceSub,Array.replicate_succ,Array.replicate_zero,List.push_toArray,List.append_toArray,List.nil_append,List.cons_append]
 gi_wp2_with fail
 rw [← hw0];clear hw0;refine ⟨trivial,(callsIn_wide.2 (AL dev ino ds A n c HN.o (slV Am nm cm) w0 (F0.more (by omega)))).mono ?_⟩;rintro en w1 ⟨rfl,hb1⟩;have V1:=V0.below hb1;have U1:=U0.below hb1;have R11:=R1.below hb1;have R21:=R2.below hb1;have F1:=F0.keep hb1 (by omega);have M1:=M0.keep hb1 (by omega);have B1:Below H w w1:=B0.trans (hb1.mono (by omega));have hs1:H+4≤w1.heap.size:=by have:=hb1.size;omega
 clear hb1 V0 U0 R1 R2 F0 M0 B0 hs0 w0;have u0:=U1.cell 0;have v0:=V1.cell 0;have v1:=V1.cell 1;cases hd:bK (ds.map Dm.dv) dev ino with
 | false=>
  have r0:=R11.cell 0;have g0:=R11.free 0;have r2:=R21.cell 0;have g2:=R21.free 0
  gi_wp2_with fail
  refine ⟨trivial,?_⟩
  gi_wp2_with fail
  have q1:Blk ((w1.setCell ⟨H+1+1,0,none⟩ (.string ⟨#[]⟩)).setCell ⟨H+1+1+1,0,none⟩ (.bool false)) (H+1+1) 9 #[.string ⟨#[]⟩]:=(R11.put 0 _).af _ (by show H+1+1≠H+1+1+1;omega);have q2:Blk ((w1.setCell ⟨H+1+1,0,none⟩ (.string ⟨#[]⟩)).setCell ⟨H+1+1+1,0,none⟩ (.bool false)) (H+1+1+1) 4 #[.bool false]:=(R21.af (p:=⟨H+1+1,0,none⟩) _ (by show H+3≠H+1+1;omega)).put 0 _;have d1:=q1.cell 0;have d2:=q2.cell 0;refine ⟨.tuple #[.string ⟨#[]⟩, .bool false],by simp [results,Tryz.results49,go_sem,d1,d2],rfl,?_⟩;rw [hH];exact (B1.setCell (p:=⟨H+1+1,0,none⟩) (by show H≤H+1+1;omega) _).setCell (p:=⟨H+1+1+1,0,none⟩) (by show H≤H+1+1+1;omega) _
 | true=>
  have hmt:fq ms dev=false:=by have h:=HNO.o;rw [hd,Bool.true_and] at h;exact h
  gi_wp2_with fail
  clear u0 v0 v1;refine ⟨trivial,(callsIn_wide.2 (Hf dev (slV A n c) ms Am nm cm HNM.o hl w1 (M1.more (by omega)))).mono ?_⟩;rw [hmt];rintro en w2 ⟨rfl,hb1⟩;have R12:=R11.below hb1;have R22:=R21.below hb1;have B2:Below H w w2:=B1.trans (hb1.mono (by omega));clear hb1 V1 U1 R11 R21 F1 M1 B1;have r0:=R12.cell 0;have g0:=R12.free 0;have r2:=R22.cell 0;have g2:=R22.free 0
  gi_wp2_with fail
  have q1:Blk ((w2.setCell ⟨H+1+1,0,none⟩ (.string ⟨#[]⟩)).setCell ⟨H+1+1+1,0,none⟩ (.bool false)) (H+1+1) 9 #[.string ⟨#[]⟩]:=(R12.put 0 _).af _ (by show H+1+1≠H+1+1+1;omega);have q2:Blk ((w2.setCell ⟨H+1+1,0,none⟩ (.string ⟨#[]⟩)).setCell ⟨H+1+1+1,0,none⟩ (.bool false)) (H+1+1+1) 4 #[.bool false]:=(R22.af (p:=⟨H+1+1,0,none⟩) _ (by show H+3≠H+1+1;omega)).put 0 _;have d1:=q1.cell 0;have d2:=q2.cell 0;refine ⟨.tuple #[.string ⟨#[]⟩, .bool false],by simp [results,Tryz.results49,go_sem,d1,d2],rfl,?_⟩;rw [hH];exact (B2.setCell (p:=⟨H+1+1,0,none⟩) (by show H≤H+1+1;omega) _).setCell (p:=⟨H+1+1+1,0,none⟩) (by show H≤H+1+1+1;omega) _
theorem zw {f:List Dv} (h:FOk f):xz f≤1000:=by
 have:∀ l:List Dv,(∀ d∈l,d.ns.length≤16)→(l.map (fun d=>d.ns.length)).sum≤16 * l.length:=by
  intro l;induction l with
  | nil=>intro _;simp
  | cons a l ih=>
   intro hl;have h1:=ih (fun d hd=>hl d (List.mem_cons_of_mem _ hd));have h2:=hl a (List.mem_cons_self ..);simp only [List.map_cons,List.sum_cons,List.length_cons];omega
 have h1:=this f (fun d hd=>(h.2.2 d hd).few);have h2:=h.2.1;unfold xz;omega
theorem iC:∀ (L:List ByteArray) (d:ByteArray),0 < d.size→0 < (L.foldl eQ d).size
 | [],_,h=>h
 | a :: L,d,h=>iC L (eQ d a) (by unfold eQ;split <;> simp only [ByteArray.size_append] <;> omega)
theorem sH (ds:List Dm) (A:Option Addr) (n c:Nat) (hn:n=ds.length) (ms:List Mt) (Am:Option Addr) (nm cm:Nat) (hnm:nm=ms.length) (hl:nm≤1000) (hok:SOk (ds.map Dm.dv) ms) (dev ino:Int):
   ∃ (s:ByteArray) (b:Bool),(s.size≤586∧b=decide (0 < s.size))∧∀ w:World,bZ w w.heap.size A ds→AtE EMt w w.heap.size Am ms→
    Calls Tryz.prog 49 #[.agg #[slV A n c,slV Am nm cm],flV dev ino] w (WhP s b w)∧Calls Tryz.prog 28 #[.agg #[slV A n c,slV Am nm cm],flV dev ino] w (WhP s b w):=by
 by_cases h:(bK (ds.map Dm.dv) dev ino && fq ms dev)=true
 · have h0:=Bool.and_eq_true .. ▸ h;obtain ⟨L,k,h1,h2,h3⟩:=hok.EB h0.2 h0.1;exact ⟨iF L,true,⟨jy (h1.names hok.1) h2,(decide_eq_true (iC L _ (by decide))).symm⟩,fun w hf hm=>⟨xg ds A n c hn ms Am nm cm hnm hl hok.1 h1 h3 (Nat.le_trans h3 (zw hok.1)) h0.1 h0.2 w hf hm,oD ds A n c hn ms Am nm cm hnm hl hok.1 hok.2.zero h1 h2 w hf hm⟩⟩
 · have h0:(bK (ds.map Dm.dv) dev ino && fq ms dev)=false:=(by simpa using h);exact ⟨⟨#[]⟩,false,⟨by decide,by decide⟩,fun w hf hm=>⟨pJ ds A n c hn ms Am nm cm hnm hl h0 w hf hm,oC dev ino ds A n c hn ms Am nm cm hnm hl w hf hm h0⟩⟩
end Go.Proofs.YtollifnnpihfdaaGreatDoor
