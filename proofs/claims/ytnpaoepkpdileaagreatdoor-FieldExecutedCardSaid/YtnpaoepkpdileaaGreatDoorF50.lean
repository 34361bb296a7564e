import Derived.Test.YtnpaoepkpdileaaGreatDoorF49
set_option maxRecDepth 100000
set_option maxHeartbeats 64000000
set_option linter.all false
namespace Go.Proofs.YtnpaoepkpdileaaGreatDoor
open Go.RowKit
abbrev bxA (w:World):World:=((w.alloc (.cells dD 36)).alloc (.cells syZ 47)).alloc (.cells rsZ 50)
abbrev bxB (w:World) (d:ExD):World:=(bxA w).setRow w.heap.size d.X
abbrev bxC (w:World) (d:ExD):World:=(bxB w d).setRow (w.heap.size+1) (syC d.s)
abbrev bxD (w:World) (d:ExD):World:=(bxC w d).setRow (w.heap.size+2) d.R
theorem DK (w:World) (d:ExD):Below w.heap.size w (bxD w d)∧Blk (bxA w) w.heap.size 36 dD∧Blk (bxB w d) (w.heap.size+1) 47 syZ∧Blk (bxC w d) (w.heap.size+2) 50 rsZ∧Blk (bxD w d) w.heap.size 36 d.X:=by
 have s1:(w.alloc (.cells dD 36)).heap.size=w.heap.size+1:=by simp
 have s2:((w.alloc (.cells dD 36)).alloc (.cells syZ 47)).heap.size=w.heap.size+2:=by simp
 have h1:=Blk.new (w.alloc (.cells dD 36)) syZ 47;have h2:=Blk.new ((w.alloc (.cells dD 36)).alloc (.cells syZ 47)) rsZ 50;rw [s1] at h1;rw [s2] at h2;have k0:Blk (bxA w) w.heap.size 36 dD:=((Blk.new w dD _).alloc _).alloc _;have k1:Blk (bxA w) (w.heap.size+1) 47 syZ:=h1.alloc _;have k2:Blk (bxA w) (w.heap.size+2) 50 rsZ:=h2;refine ⟨ai (ai (ai ((((Below.refl _ _).alloc (Nat.le_refl _) _).alloc (by rw [s1];omega) _).alloc (by rw [s2];omega) _) (Nat.le_refl _) _) (by omega) _) (by omega) _,k0,k1.ah _ (by omega),(k2.ah _ (by omega)).ah _ (by omega),?_⟩;exact ((k0.row d.X).ah _ (by omega)).ah _ (by omega)
theorem yn {d:ExD} {w:World} {lo:Nat} (h:d.Ok w lo):d.is.length≤2:=by
 have h5:=h.hi.1;have h6:=oJ d.z;have h7:=qK d.z;omega
theorem yo {w w4:World} {b:Int} {lo:Nat} {d:ExD} (hb:Below w.heap.size w w4) (h1:w.heap.size < lo) (hlo:lo≤w4.heap.size) (hs:aP w4 w.heap.size w.heap.size b) (hd:d.Ok w4 lo):
   ∃ cx r A cp L,L.length≤2∧BSt w (bxD w4 d) w4.heap.size b cx r A cp L:=by
 obtain ⟨k0,_,_,_,k4⟩:=DK w4 d;obtain ⟨A,c,e,hat⟩:=Ew.items (show Ew w4 lo (.slice d.I d.nI d.cI) d.is from hd.oi);injection e with e1 e2 e3;refine ⟨exX d.a d.ex d.p,exR d.z d.p d.o ⟨d.P,d.ps.length,d.cp⟩ ⟨d.G,d.gs.length,d.cg⟩,d.I,d.cI,d.is,yn hd,aa hb k0,hs.below k0,?_,?_,?_,by omega⟩
 · have k5:Blk (bxD w4 d) w4.heap.size 36 (exC d.z d.a d.ex d.p d.o ⟨d.P,d.ps.length,d.cp⟩ ⟨d.G,d.gs.length,d.cg⟩ (.slice d.I d.nI d.cI)):=k4;rw [e2] at k5;exact k5
 · rw [e1];exact hat.keep k0 (Nat.le_refl _)
 · intro ad ea;have:=hd.oi.ge ad.block (by rw [ea];rfl);omega
def ESt (w W:World) (gc gt:Nat) (b:Int) (c:Ctx) (r:cZ) (A:Option Addr) (cp:Nat) (L:List (Itm×aS)) (fd op nu:Int) (tx:ByteArray) (ot:Int):Prop:=BSt w W gc b c r A cp L∧dH W gt fd op nu tx ot
section
variable {w W W' :World} {gc gt:Nat} {b:Int} {c:Ctx} {r:cZ} {A:Option Addr} {cp:Nat} {L:List (Itm×aS)} {fd op nu ot:Int} {tx:ByteArray}
theorem ESt.below (h:ESt w W gc gt b c r A cp L fd op nu tx ot) (hb:Below W.heap.size W W'):ESt w W' gc gt b c r A cp L fd op nu tx ot:=⟨h.1.below hb,Blk.below h.2 hb⟩
theorem ESt.drew (h:ESt w W gc gt b c r A cp L fd op nu tx ot):ESt w W.drew gc gt b c r A cp L fd op nu tx ot:=⟨h.1.drew,h.2⟩
theorem ESt.ld (h:ESt w W gc gt b c r A cp L fd op nu tx ot):ESt w W gc gt b c r A cp L fd op nu tx ot∧(loadVar 55 ⟨gt,0,none⟩).run Tryz.prog W= .ok (.agg (bO fd op nu tx ot)) W∧(loadVar 36 ⟨gc,0,none⟩).run Tryz.prog W= .ok (.agg (dR c r (.slice A L.length cp))) W:=⟨h,mY h.2,qO h.1.cb⟩
end
theorem wo (fd op nu:Int) (tx:ByteArray) (ot:Int):(bO fd op nu tx ot).all (·.oneCell')=true:=by simp [Value.oneCell']
attribute [local irreducible] dR exC gV gW
attribute [-go_sem] loadVar
attribute [local go_sem] EC ED GD
theorem fieldExecuted_walk (w:World) (A:Option Addr) (n c:Nat) (hn:(n:Int)≤9223372036854775807)
  (hl:∀ k,k < n→∃ (ad:Addr) (z:Int),A=some ad∧ad.block < w.heap.size∧w.cell? (ad.add k)=some (.int .i64 z)∧ -9223372036854775808≤z∧z≤9223372036854775807) (hG:ym w):
  Calls Tryz.prog 3 #[.slice A n c] w fun e w' =>e= .returned (.bool true)∧Below w.heap.size w w' :=by
 have HL:=Hd hl;have HN:=Hd hn;have HAW:=Hd (fun (W:World) (h:Below w.heap.size w W)=>AO W (hG.below h).fn (hG.below h).fo (hG.below h).tb (hG.below h).pw);clear hl hn hG;go_in;go_wp2_with fail;refine (yU _ A n c HN.o HL.o).mono ?_;rintro e w1 ⟨rfl,hs1,hb1⟩;have hlt1:=dh hs1;have S1:=Hd hs1;have B1:=Hd hb1;clear hs1 hb1 HL HN;go_wp2_with fail;refine (rM w1 w.heap.size w.heap.size 0 S1.o (by omega)).mono ?_;rintro e w2 ⟨s,rfl,hy,hs,hg⟩;have hg2:=hg.size;have B2:=Hd (jf B1.o hg (by omega) (Nat.le_refl _));have Y2:=Hd (hy.low (show w.heap.size+1≤w1.heap.size by omega));have S2:=Hd hs;have L2:=Hd (show w.heap.size+1≤w2.heap.size by omega);clear hy hs hg hlt1 hg2 S1 B1;go_wp2_with fail;refine (yc w2 w.heap.size w.heap.size (0+5000) S2.o (by omega) (w.heap.size+1) s Y2.o (Nat.lt_succ_self _) L2.o).mono ?_;rintro e w4 ⟨d,rfl,hd,hs,hg⟩;obtain ⟨k0,k1,k2,k3,k4⟩:=DK w4 d;obtain ⟨cx,r,Ai,cp,L,hL2,hst⟩:=yo (jf B2.o hg (by have:=L2.o;omega) (Nat.le_refl _)) (by have:=L2.o;omega) hg.size hs hd;have K1:=Hd k1;have K2:=Hd k2;have K3:=Hd k3;have HST:=Hd hst;have HL2:=Hd hL2;clear hd hs hg k0 k1 k2 k3 k4 hst hL2 S2 B2 Y2 L2;go_upto_region 3 with (first | (refine Great.wpList_allocTo rfl (some 4) rfl (.pointer (some ⟨w4.heap.size,0,none⟩)) (.cells dD 36) (by as_aux_lemma=>kernel_rfl) ?_) | ((with_reducible refine ae ?_ 36 (.tmp 4) (.tmp 16) ?_ K1.o d.X ?_ ?_ ?_ ?_ ?_ ?_);(iterate 4 rfl);(exact qM _ _ _ _ _ _ _ _);(exact pO _ _ _ _ _ _ _ _);(exact pM _ _ _ _ _ _ _ _ _ _)) | ((with_reducible refine ae ?_ 47 (.tmp 5) (.tmp 17) ?_ K2.o (syC d.s) ?_ ?_ ?_ ?_ ?_ ?_);(iterate 4 rfl);(exact gL _);rfl;(exact fD _)) | ((with_reducible refine ae ?_ 50 (.tmp 6) (.tmp 18) ?_ K3.o d.R ?_ ?_ ?_ ?_ ?_ ?_);(iterate 4 rfl);(exact mU _ _ _ _ _);rfl;(exact kJ _ _ _ _ _ _ _ _ _)));clear K1 K2 K3;go_wp2_with fail;go_loopw [7] (fun i wr=>∃ k:Int,i= .int .i64 k∧0≤k∧k≤10∧Hid (BSt w wr w4.heap.size (5203+20 * k) cx r Ai cp L)) (fun i _=>(10 - intOf i).toNat);case atStart=>exact ⟨0,rfl,by omega,by omega,Hd (HST.o.more (by omega))⟩
 case round=>
  obtain ⟨k,rfl,hk0,hk10,hst⟩:=hrel;clear HST;by_cases hk:k < 10
  · go_wp2_with fail;refine (yj _ w.heap.size w.heap.size _ 3 hst.o.src (by omega)).mono ?_;rintro e w6 ⟨fd,op,nu,tx,ot,rfl,hnu,htx,hs6,hg6⟩;have st6:=Hd ((hst.o.step hs6 hg6).more (show 5203+20 * k+20≤5203+20 * (k+1) by omega));have HXT:=Hd (show tx.size≤maxLen by unfold maxLen;omega);clear hst hs6 hg6 hnu htx;have HT:=Hd (Blk.new w6 rO 55);have hbt:=ai ((Below.refl w6.heap.size w6).alloc (Nat.le_refl _) (.cells rO 55)) (Nat.le_refl _) (bO fd op nu tx ot);have EST:=Hd (show ESt w ((w6.alloc (.cells rO 55)).setRow w6.heap.size (bO fd op nu tx ot)) w4.heap.size w6.heap.size (5203+20 * (k+1)) cx r Ai cp L fd op nu tx ot from ⟨st6.o.below hbt,HT.o.row _⟩);clear st6 hbt;go_upto_region 7 with ((with_reducible refine ae ?_ 55 (.tmp 8) (.tmp 24) ?_ HT.o (bO fd op nu tx ot) ?_ ?_ ?_ ?_ ?_ ?_);(iterate 4 rfl);(exact pq _ _ _ _ _);rfl;(exact wo _ _ _ _ _));clear HT;generalize (w6.alloc (.cells rO 55)).setRow w6.heap.size (bO fd op nu tx ot)=w7 at *;generalize w6.heap.size=gt at *;have HLC:=Hd (fun (x:World) (h:ESt w x w4.heap.size gt (5203+20 * (k+1)) cx r Ai cp L fd op nu tx ot)=>h.ld);have VE:=Hd (fun (W:World) (h:ESt w W w4.heap.size gt (5203+20 * (k+1)) cx r Ai cp L fd op nu tx ot)=>uZ cx r Ai L.length cp L rfl (by have:=HL2.o;omega) fd op nu tx ot HXT.o W h.1.items);have RE:=Hd (fun (W:World) (h:ESt w W w4.heap.size gt (5203+20 * (k+1)) cx r Ai cp L fd op nu tx ot)=>DJ cx r Ai L.length cp L rfl (by have:=HL2.o;omega) fd op nu tx ot HXT.o W h.1.items);simp only [uT] at VE;generalize gV cx (L.map (·.1)) fd op nu tx ot=ev at *
    go_region_held3 (fun w' =>ESt w w' w4.heap.size gt (5203+20 * (k+1)) cx r Ai cp L fd op nu tx ot∧(loadVar 55 ⟨gt,0,none⟩).run Tryz.prog w' = .ok (.agg (bO fd op nu tx ot)) w' ∧(loadVar 36 ⟨w4.heap.size,0,none⟩).run Tryz.prog w' = .ok (.agg (dR cx r (.slice Ai L.length cp))) w')
     (first | exact HLC.o _ EST.o.drew | exact HLC.o _ (ESt.below (And.left (by assumption)) hb)) (first | (go_at_call 8;refine (VE.o _ (And.left (by assumption))).mono ?_;rintro e w8 ⟨rfl,hb⟩) | (go_at_call 9;refine (RE.o _ (And.left (by assumption))).mono ?_;rintro e w8 ⟨rfl,hb⟩))
    all_goals
     have HB9:=Hd (And.left (And.left (by assumption)));go_wp2_with fail;go_roundw;case rel=>exact ⟨k+1,by go_num,by omega,by omega,HB9⟩
     case measure=>simp [intOf];omega
  · have hk7:k=10:=(by omega);subst hk7;go_wp2_with fail;refine (HAW.o _ hst.o.low).mono ?_;rintro e w8 ⟨rfl,hb8⟩;go_wp2_with fail;go_ret;exact ⟨rfl,aa hst.o.low hb8⟩
end Go.Proofs.YtnpaoepkpdileaaGreatDoor
