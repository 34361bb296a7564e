import Derived.Test.YtollifnnpihfdaaGreatDoorX40
import Derived.Test.YtollifnnpihfdaaGreatDoorX33
import Derived.Test.YtollifnnpihfdaaGreatDoorX23
set_option maxRecDepth 100000
set_option maxHeartbeats 64000000
set_option linter.all false
namespace Go.Proofs.YtollifnnpihfdaaGreatDoor
open Go.RowKit
theorem Ki:Kh:=fun d i p hp fw ds A n c hn ms Am nm cm hnm hl hok w hf hm=>J8 d i p hp fw ds A n c hn ms Am nm cm hnm hl hok w hf hm
structure LkS (base gw gp k:Nat) (np cp:Nat) (ad:Addr) (s:ByteArray) (pc:Array Value) (W:World):Prop where
 x24:W.cell? ⟨gw,24,none⟩=some (.slice (some ad) np cp)
 y:W.cell? (ad.add k)=some (.string s)
 pm:Blk W gp 3 pc
 hab:ad.block < base
 hgw:base≤gw∧base≤gp∧gw≠gp
section
variable {base gw gp k np cp:Nat} {ad:Addr} {s:ByteArray} {pc:Array Value} {W W' :World}
theorem LkS.below (h:LkS base gw gp k np cp ad s pc W) (hb:Below W.heap.size W W'):LkS base gw gp k np cp ad s pc W' :=
 ⟨(hb.cell (block_lt_of_cell h.x24)).trans h.x24,(hb.cell (block_lt_of_cell h.y)).trans h.y,h.pm.below hb,h.hab,h.hgw⟩
theorem LkS.far (h:LkS base gw gp k np cp ad s pc W) {row:Option Nat} (hg:W.grownBy W' row) (hr:∀ q,row=some q→base≤q∧q≠gw∧q≠gp):LkS base gw gp k np cp ad s pc W' :=
 ⟨(hg.cell_far _ (block_lt_of_cell h.x24) (fun e=>(hr _ e.symm).2.1 rfl)).trans h.x24,
  (hg.cell_far _ (block_lt_of_cell h.y) (fun e=>by have h1:=(hr _ e.symm).1;rw [ic] at h1;have h2:=h.hab;omega)).trans h.y,h.pm.grown hg (fun e=>(hr _ e).2.2 rfl),h.hab,h.hgw⟩
theorem LkS.laid (h:LkS base gw gp k np cp ad s pc W) {i:Nat} (hi:i≠24) (x:Value):LkS base gw gp k np cp ad s pc (W.setCell ⟨gw,i,none⟩ x):=
 ⟨(World.cell?_setCell_other _ _ _ _ (fun e=>hi (by injection e))).trans h.x24,
  (World.cell?_setCell_other _ _ _ _ (fun e=>by have h1:=congrArg Addr.block e;rw [ic] at h1;have h2:=h.hab;have h3:=h.hgw.1;simp at h1;omega)).trans h.y,h.pm.af _ (fun e=>h.hgw.2.2 e.symm),h.hab,h.hgw⟩
end
section
variable {w:World} {base gw m:Nat} {u:Wu} {v v' :Wv} {ds ds2:List Dm} {ms ms2:List Mt} {fs fs2:List Fo} {m2:Nat}
theorem WkS.lay {i:Nat} {x:Value} (X:Blk w gw 176 (wkC u v)) (O:WkO w base v' ds ms fs m) (e:(wkC u v).setIfInBounds i x=wkC u v') (hb:base≤gw) (hgh:u.gh= []):WkS (w.setCell ⟨gw,i,none⟩ x) base gw u v' ds ms fs m:=
 ⟨by have h1:=X.put i x;rw [e] at h1;exact h1,O.far (av w gw i x) X (by decide),hb,fun p hp=>by rw [hgh] at hp;cases hp⟩
theorem jC:∀ (us:List Value) (o g:Nat) (w:World),dB w g o us=w.setCells g o us
 | [],_,_,_=>rfl
 | u :: us,o,g,w=>by unfold dB World.setCells;exact jC us (o+1) g _
theorem ax.Kj {α:Type} {E:El α} {w:World} {base g n c:Nat} {L:List α} (h:ax E w base (.slice (some ⟨g,0,none⟩) n c) L) {k:Nat} {x' :α} (hk:k < L.length) {o:Nat} {cs:List Value} (ho:o=k * E.sz) (hc:cs=E.C x'):ax E (w.setCells g o cs) base (.slice (some ⟨g,0,none⟩) n c) (L.set k x'):=by
 subst ho;subst hc;rw [← jC];exact h.puts hk
theorem mq (w:World) (g o:Nat) (cs:List Value):w.grownBy (w.setCells g o cs) (some g):=by
 rw [← jC];exact cZ _ _ (World.grownBy.refl _ _)
theorem WkS.Kk (h:WkS w base gw u v ds ms fs m) {gI:Nat} (hI:v.I=some ⟨gI,0,none⟩) {k:Nat} (hk:k < m) (y:Itm) (r:bB) (hok:vk (y,r)):WkS (w.setCells gI (k * 13) (aO y r).toList) base gw u v ds ms fs m∧w.grownBy (w.setCells gI (k * 13) (aO y r).toList) (some gI):=by
 obtain ⟨is,h1,h2,h3⟩:=h.O.it;have hg:w.grownBy (w.setCells gI (k * 13) (aO y r).toList) (some gI):=mq _ _ _ _;have hg2:w.grownBy (w.setCells gI (k * 13) (aO y r).toList) (Value.slice v.I v.nI v.cI).ownBlock:=by rw [hI];exact hg
 have h6:ax kI (w.setCells gI (k * 13) (aO y r).toList) base (.slice v.I v.nI v.cI) (is.set k (y,r)):=by
   rw [hI] at h1 ⊢;exact h1.Kj (by omega) rfl rfl
 have h8:=h.gh;rw [hI] at h8;refine ⟨⟨h.X.grown hg2 (fun e=>az h1 h.X (by decide) e),h.O.items hg2 h6 (show (is.set k (y,r)).length=m by rw [List.length_set];exact h2) (fun x hx=>?_),h.hb,by rw [hI];exact h8.item hg⟩,hg⟩;rcases List.mem_or_eq_of_mem_set hx with hx | rfl
 · exact h3 x hx
 · exact hok
theorem WkS.Gd (h:WkS w base gw u v ds ms fs m) {gI:Nat} (hI:v.I=some ⟨gI,0,none⟩) {k:Nat} (hk:k < m):w.there gI (k * 13) 13:=fun j hj=>by
 obtain ⟨x,h1,h2⟩:=h.lq hI hk j hj;exact ⟨by rw [h1];rfl,h2⟩
end
theorem lv {P:Program} {ops:Array Oper} {o:Oper} {a:Act} {w:World} {K:Act→World→Prop} {Q:Exit→Act→World→Prop} {F:Prop} (hgd:o.guard=none) (ty:TypeId) (x y:Operand) (ho:o.op= .store ty x y)
  (b i:Nat) (cells:Array Value) (hx:a.eval x= .pointer (some ⟨b,i,none⟩)) (hy:a.eval y= .agg cells) (ht:w.there b i cells.size) (hi:(P.info? ty).map (·.size)=some cells.size) (h1:cells.all (·.oneCell')=true)
  (h:K (a.put o.dst undef) (w.setCells b i cells.toList)):if Region.wanted o (yielded ops a.tmps)=true then Oper.wp P o a w K Q else F:=by
 have hw:Region.wanted o (yielded ops a.tmps)=true:=by simp [Region.wanted,hgd]
 rw [if_pos hw];exact wp_store_mid ty x y ho b i cells hx hy ht hi h1 h
def LkP (w:World) (base gw:Nat) (u:Wu) (ds:List Dm) (ms:List Mt) (n:Nat) (e:Ending) (w' :World):Prop:=∃ (k:Int) (v' :Wv) (fs:List Fo),e= .returned (.int .i64 k)∧fs.length=n∧WkS w' base gw u v' ds ms fs n∧Below base w w'
def it0 (gv:ByteArray) (pm:Int):Itm×bB:=(⟨0,0,0,0,0⟩,⟨gv,⟨#[]⟩,0,0,⟨#[]⟩,1,0,pm⟩)
abbrev IM (s:ByteArray) (pm:Int):Array Value:=#[.string s, .string ⟨#[]⟩, .int .i64 0, .int .i64 0, .string ⟨#[]⟩, .int .i64 0, .int .i64 0, .int .i64 1, .int .i64 0, .int .i64 0, .int .i64 0, .int .i64 0, .int .i64 pm]
theorem Cx (s:ByteArray) (pm:Int):(IM s pm).toList=kI.C (it0 s pm):=rfl
def Gf (v0:Value) (s:ByteArray) (pm:Int) (j:Nat) (v:Value) (W:World):Prop:=
 (j=5→v=v0)∧(j=18→v= .agg (IM s pm))∧(j=19→∃ g:Nat,v= .slice (some ⟨g,0,none⟩) 1 1∧AtE kI W W.heap.size (some ⟨g,0,none⟩) [it0 s pm])
theorem Gf.below {v0:Value} {s:ByteArray} {pm:Int} {A B:World} (hb:Below A.heap.size A B) (j:Nat) (x:Value) (h:Gf v0 s pm j x A):Gf v0 s pm j x B:=
 ⟨h.1,h.2.1,fun e=>by obtain ⟨g,h1,h2⟩:=h.2.2 e;exact ⟨g,h1,h2.below hb⟩⟩
def vR (v0:Value) (x:Fo) (j:Nat) (v:Value) (W:World):Prop:=
 (j=4→v=v0)∧(j=6→∃ g:Nat,v= .slice (some ⟨g,0,none⟩) 1 1∧AtE EFo W W.heap.size (some ⟨g,0,none⟩) [x])
theorem vR.below {v0:Value} {y:Fo} {A B:World} (hb:Below A.heap.size A B) (j:Nat) (x:Value) (h:vR v0 y j x A):vR v0 y j x B:=
 ⟨h.1,fun e=>by obtain ⟨g,h1,h2⟩:=h.2 e;exact ⟨g,h1,h2.below hb⟩⟩
theorem Kl (base gw:Nat) (u:Wu) (v:Wv) (ds:List Dm) (ms:List Mt) (ps gs:List ByteArray) (e0:Int) (w:World) (h:WkS w base gw u v ds ms [] 0) (ha:WkA w base u ps gs) (hgh:u.gh= []):
  Calls Tryz.prog 84 #[.pointer (some ⟨gw,0,none⟩), .int .i64 e0] w (LkP w base gw u ds ms ps.length):=by
 have HA:=Hd ha;have HW:=Hd h;have HB:=Hd h.hb;have HGH:=Hd hgh;have x19:w.cell? ⟨gw,19,none⟩=some (.int .i64 u.z):=h.X.cell 19;have x20:w.cell? ⟨gw,20,none⟩=some (.int .i64 (u.a 0)):=h.X.cell 20;have x21:w.cell? ⟨gw,21,none⟩=some (.int .i64 (u.a 1)):=h.X.cell 21;have x22:w.cell? ⟨gw,22,none⟩=some (.int .i64 (u.a 2)):=h.X.cell 22;have x23:w.cell? ⟨gw,23,none⟩=some (.int .i64 (u.a 3)):=h.X.cell 23;have x24:w.cell? ⟨gw,24,none⟩=some (.slice u.P u.np u.cp):=h.X.cell 24;have x25:w.cell? ⟨gw,25,none⟩=some (.slice u.G u.ng u.cg):=h.X.cell 25;clear h ha hgh;go_in;go_wp2_with fail;clear x19 x20 x21 x22 x23 x24 x25;refine (Co u.z u.a u.P u.np u.cp u.G u.ng u.cg w).mono ?_;rintro e w1 ⟨gp,n,p,pc,rfl,hn1,hn2,hgp,hpk,hpc,hb⟩;have HP1:=Hd hpk;have HPC:=Hd hpc;have HN1:=Hd hn1;have W1:=Hd (HW.o.below hb);have B1:=Hd (show Below base w w1 from hb.mono HW.o.big);have HGP:=Hd (show base≤gw∧base≤gp∧gw≠gp from ⟨HB.o,Nat.le_trans HW.o.big hgp,fun e=>by have:=HW.o.X.lt;omega⟩);clear hb hn1 hgp hpk hpc;go_wp2_with fail;go_loopw [1,6] (fun ev i wr=>∃ (k:Nat) (q:Int) (vv:Wv) (fk:List Fo),k≤ps.length∧ev= .int .i64 q∧i= .int .i64 k∧WkS wr base gw u vv ds ms fk k∧fk.length=k∧Below base w wr∧Blk wr gp 3 pc) (fun _ i _=>ps.length - (intOf i).toNat);case atStart=>exact ⟨0,_,v, [],Nat.zero_le _,rfl,rfl,W1.o,rfl,B1.o,HP1.o⟩
 case round=>
  obtain ⟨k,q,vv,fk,hk,rfl,rfl,hw,hfl,hbw,hpm⟩:=hrel;have WR:=Hd hw;have FL:=Hd hfl;have BR:=Hd hbw;have PM:=Hd hpm;clear hw hfl hbw hpm;have WK:=Hd (bg hk (by have:=HA.o.lp;unfold jT at this;split at this <;> omega))
  have hnp:=HA.o.np;have x24:wr.cell? ⟨gw,24,none⟩=some (.slice u.P u.np u.cp):=WR.o.X.cell 24;by_cases hlt:k < ps.length;case neg=>
   have k1:¬ (k:Int) < (u.np:Int):=(by rw [hnp];omega);have hkk:k=ps.length:=(by omega);clear hnp;go_wp2_with fail;go_ret;subst hkk;exact ⟨q,vv,fk,rfl,FL.o,WR.o,BR.o⟩
  case pos=>
   have k1:(k:Int) < (u.np:Int):=(by rw [hnp];omega);have k2:(0:Int)≤(k:Int):=(by omega);have hk2:k < 2:=by have:=HA.o.lp;unfold jT at this;split at this <;> omega
   obtain ⟨ad,eP,hab,hcx⟩:=(HA.o.keep BR.o).P k hlt;have HS:=Hd (HA.o.hp _ (List.getElem_mem hlt));have k3:(k:Int) < (n:Int):=(by have:=HN1.o;have:=HA.o.lp;omega);have hpk:pc[k]? =some (.int .i64 (p k)):=HPC.o k (by omega);generalize ps[k]'hlt=s at *;have L0:=Hd (show LkS base gw gp k u.np u.cp ad s pc wr from ⟨by rw [← eP];exact WR.o.X.cell 24,hcx,PM.o,hab,HGP.o⟩);have HPK:=Hd hpk;clear hpk hcx eP hab hnp PM;go_upto_region 5 with fail;clear x24;have L1:=Hd (L0.o.below (Below.refl wr.heap.size wr).drew);have W2:=Hd (WR.o.below (Below.refl wr.heap.size wr).drew);have B2:=Hd (show Below base w wr.drew from BR.o.trans (Below.refl base wr).drew);clear L0 WR BR;refine wp_region_held_drew (S:=(fun W=>LkS base gw gp k u.np u.cp ad s pc W)) (by kernel_rfl) L1.o (fun hHeld=>?_);generalize wr.drew=wa at *;refine tk hHeld 0 ?_ ?_ (tk hHeld 1 ?_ ?_ (tk hHeld 2 ?_ ?_ (tk hHeld 3 ?_ ?_ (tk hHeld 4 ?_ ?_ (tk hHeld 6 ?_ ?_ (tk hHeld 7 ?_ ?_ (tk hHeld 8 ?_ ?_ (tk hHeld 9 ?_ ?_ (tk hHeld 10 ?_ ?_ (tk hHeld 11 ?_ ?_ (tk hHeld 12 ?_ ?_ (tk hHeld 13 ?_ ?_ (tk hHeld 14 ?_ ?_ (tk hHeld 15 ?_ ?_ (tk hHeld 16 ?_ ?_ (tk hHeld 17 ?_ ?_ ?_))))))))))))))));iterate 17
    rotate_left
    · intro W hSw;have x24:=hSw.x24;have y:=hSw.y;have py:W.cell? ⟨gp,k,none⟩=some (.int .i64 (p k)):=(hSw.pm.cell k).trans HPK.o;go_simp;try (with_reducible rfl)
   refine bq [5,18,19] [(5,28),(18,41),(19,42)] (fun W=>WkS W base gw u vv ds ms fk k∧Below base w W) (Gf (.slice vv.I vv.nI vv.cI) s (p k)) (fun A B=>Below A.heap.size A B) 5 hHeld ⟨W2.o,B2.o⟩ rfl (by kernel_rfl) (by kernel_rfl) (fun A B hb=>⟨fun h=>h.below hb,fun h=>⟨h.1.below hb,h.2.trans (hb.mono h.1.big)⟩,fun j x h=>Gf.below hb j x h⟩) ?steps ?fin;case steps=>
    refine aZ.cons (i:=5) rfl (fun u W hSW hJW hpre K hK=>?_) ?_
    · dsimp only [bL,List.foldl];have x30:W.cell? ⟨gw,30,none⟩=some (.slice vv.I vv.nI vv.cI):=hJW.1.X.cell 30;go_simp;exact hK.o _ _ _ (by kernel_rfl) ⟨fun _=>rfl,fun h=>absurd h (by decide),fun h=>absurd h (by decide)⟩ (Below.refl _ _)
    refine aZ.cons (i:=18) rfl (fun u W hSW hJW hpre K hK=>?_) ?_
    · dsimp only [bL,List.foldl];refine fJ (by rfl) 73 _ (by rfl) (IM s (p k)) ?_ ?_
      · go_simp;exact vI s (p k)
      exact hK.o _ _ _ (by kernel_rfl) ⟨fun h=>absurd h (by decide),fun _=>rfl,fun h=>absurd h (by decide)⟩ (Below.refl _ _)
    refine aZ.cons (i:=19) rfl (fun u W hSW hJW hpre K hK=>?_) ?_
    · dsimp only [bL,List.foldl];have h18:=(hpre 18 rfl (by kernel_rfl)).2.1 rfl;rw [← oN h18] at hK;go_simp;exact hK.o (.slice (some ⟨W.heap.size,0,none⟩) 1 1) _ _ (by kernel_rfl) ⟨fun h=>absurd h (by decide),fun h=>absurd h (by decide),fun _=>⟨W.heap.size,rfl,aI kI W (IM s (p k)) 73 (it0 s (p k)) (Cx s (p k)) (by simp)⟩⟩ ((Below.refl _ _).alloc (Nat.le_refl _) _)
    exact aZ.nil
   case fin=>
   intro uu W hHeld hJ hV;dsimp only [bL,List.foldl];have e5:=(hV 5 rfl).1 rfl;obtain ⟨g9,e9,h9⟩:=(hV 19 rfl).2.2 rfl;simp only [e5,e9];go_simp;obtain ⟨is,hi1,hi2,hi3⟩:=hJ.1.O.it;have HI3:=Hd hi3;have HI2:=Hd hi2;have WJ:=Hd hJ.1;have BJ:=Hd hJ.2;have LJ:=Hd hHeld;clear hV e5 e9 hJ hi3 L1 W2 B2;refine rdy1 20 (fun K hK=>?_);refine aQ kI (by rfl) (.tmp 28) (.tmp 42) (by rfl) base (.slice vv.I vv.nI vv.cI) is (by rfl) hi1 W.heap.size (some ⟨g9,0,none⟩) 1 1 [(it0 s (p k))] (by rfl) (by rfl) h9 (by rw [HI2.o];simp;omega) WJ.o.big ?_;intro v2 w2 ho2 hg2 EZ;obtain ⟨A2,c2,ev,_⟩:=ho2.at;rw [show (is ++ [(it0 s (p k))]).length=k+1 by simp [hi2]] at ev;subst ev;have hrow:∀ q,(Value.slice vv.I vv.nI vv.cI).ownBlock=some q→base≤q∧q≠gw∧q≠gp:=fun q e=>⟨hi1.ge q e,fun e2=>az hi1 WJ.o.X (by decide) (e2 ▸ e),fun e2=>az hi1 LJ.o.pm (by decide) (e2 ▸ e)⟩;have L2:=Hd (LJ.o.far hg2 hrow);have X2:=Hd (WJ.o.X.grown hg2 (fun e=>(hrow _ e).2.1 rfl));have B2:=Hd (BJ.o.grown hg2 WJ.o.big (fun q e=>(hrow q e).1));have O2:=Hd (WJ.o.O.items hg2 ho2 (by simp [hi2]) (fun x hx=>by rcases List.mem_append.1 hx with hx | hx;exact HI3.o x hx;rw [List.mem_singleton] at hx;subst hx;exact ⟨HS.o,Nat.zero_le _,Nat.zero_le _⟩):WkO w2 base { vv with I:=A2,nI:=k+1,cI:=c2 } ds ms fk (k+1));clear EZ hg2 ho2 hrow h9 hi1 HI3 HI2 hi2;refine hK.o _ _ L2.o (fun hHeld=>?_);clear hK K;refine tk hHeld 21 ?_ ?_ (tk hHeld 22 ?_ ?_ (tk hHeld 23 ?_ ?_ ?_));iterate 3
    rotate_left
    · intro W hSw;go_simp;try (with_reducible rfl)
   have W3:=Hd (WkS.lay (i:=30) (x:= .slice A2 (k+1) c2) X2.o O2.o rfl HB.o HGH.o:WkS (w2.setCell ⟨gw,30,none⟩ (.slice A2 (k+1) c2)) base gw u { vv with I:=A2,nI:=k+1,cI:=c2 } ds ms fk (k+1));have L3:=Hd (L2.o.laid (i:=30) (by decide) (.slice A2 (k+1) c2));have B3:=Hd (B2.o.setCell (p:=⟨gw,30,none⟩) HB.o (.slice A2 (k+1) c2));have x30:w2.cell? ⟨gw,30,none⟩=some (.slice vv.I vv.nI vv.cI):=X2.o.cell 30;have f30:=X2.o.free 30;refine rdy1 24 (fun K hK=>?_);go_simp;refine hK.o _ _ L3.o (fun hHeld=>?_);clear hK K;clear x30 f30 X2 O2 L2 B2 WJ LJ BJ;generalize w2.setCell ⟨gw,30,none⟩ (.slice A2 (k+1) c2)=w3 at *;refine wpAnyH_done (by kernel_rfl) ?_ _;obtain ⟨v3,hv3⟩:∃ v3,v3= { vv with I:=A2,nI:=k+1,cI:=c2 } :=⟨_,rfl⟩;rw [← hv3] at W3;clear hv3;have W4:=Hd (W3.o.below ((Below.refl w3.heap.size w3).alloc (Nat.le_refl _) (.cells foZ 223)));have X4:=Hd (Blk.new w3 foZ 223);have L4:=Hd (L3.o.below ((Below.refl w3.heap.size w3).alloc (Nat.le_refl _) (.cells foZ 223)));have B4:=Hd (B3.o.alloc W3.o.big (.cells foZ 223));have B43:=Hd ((Below.refl w3.heap.size w3).alloc (Nat.le_refl _) (.cells foZ 223));have HBX:=Hd (show ∀ r,(Value.slice v3.F v3.nF v3.cF).ownBlock=some r→r≠w3.heap.size from fun r e=>by have:=W3.o.O.ff.lt r e;omega);go_upto_region 7 with fail;generalize w3.alloc (.cells foZ 223)=w4 at *;go_upto_if 48 with fail;go_cut [1] (fun ev wx=>∃ (q2:Int) (x:Fo),ev= .int .i64 q2∧x.nm.size≤12∧x.pa.size≤640∧WkS wx base gw u v3 ds ms fk (k+1)∧Blk wx w3.heap.size 223 (foC x)∧LkS base gw gp k u.np u.cp ad s pc wx∧Below base w wx∧w3.heap.size < wx.heap.size);case first=>
    by_cases hq:q=0;case neg=>
      obtain ⟨p1,p2⟩:=aN hq;clear hq;go_wp2_with fail;go_meet;exact ⟨q,zFo,rfl,by decide,by decide,W4.o,X4.o,L4.o,B4.o,X4.o.lt⟩
    case pos=>
      subst hq;go_upto_region 8 with fail;have D4:=Hd (show Below w3.heap.size w3 w4.drew from aa B43.o (Below.refl w4.heap.size w4).drew);have X5:=Hd (show Blk w4.drew w3.heap.size 223 foZ from X4.o);clear B43 X4 W4 L4 B4;refine wp_region_held_drew (S:=(fun W=>Below w3.heap.size w3 W)) (by kernel_rfl) D4.o (fun hHeld=>?_);generalize w4.drew=w5 at *;refine tk hHeld 0 ?_ ?_ (tk hHeld 1 ?_ ?_ (tk hHeld 2 ?_ ?_ (tk hHeld 3 ?_ ?_ (tk hHeld 4 ?_ ?_ (tk hHeld 5 ?_ ?_ (tk hHeld 6 ?_ ?_ (tk hHeld 7 ?_ ?_ (tk hHeld 8 ?_ ?_ (tk hHeld 9 ?_ ?_ (tk hHeld 10 ?_ ?_ (tk hHeld 11 ?_ ?_ (tk hHeld 12 ?_ ?_ (tk hHeld 13 ?_ ?_ (tk hHeld 14 ?_ ?_ (tk hHeld 15 ?_ ?_ (tk hHeld 16 ?_ ?_ (tk hHeld 17 ?_ ?_ (tk hHeld 18 ?_ ?_ (tk hHeld 19 ?_ ?_ (tk hHeld 20 ?_ ?_ (tk hHeld 21 ?_ ?_ ?_)))))))))))))))))))));iterate 22
        rotate_left
        · intro W hSw;have hh:=W3.o.below hSw;have hl:=L3.o.below hSw;have x24:=hl.x24;have y:=hl.y;have x0:W.cell? ⟨gw,0,none⟩=some (.slice v3.A v3.n v3.c):=hh.X.cell 0;have x1:W.cell? ⟨gw,1,none⟩=some (.slice v3.Am v3.nm v3.cm):=hh.X.cell 1;have x13:W.cell? ⟨gw,13,none⟩=some (.int .i64 u.p.cd):=hh.X.cell 13;have x14:W.cell? ⟨gw,14,none⟩=some (.int .i64 u.p.ci):=hh.X.cell 14;have x19:W.cell? ⟨gw,19,none⟩=some (.int .i64 u.z):=hh.X.cell 19;have x20:W.cell? ⟨gw,20,none⟩=some (.int .i64 (u.a 0)):=hh.X.cell 20;have x21:W.cell? ⟨gw,21,none⟩=some (.int .i64 (u.a 1)):=hh.X.cell 21;have x22:W.cell? ⟨gw,22,none⟩=some (.int .i64 (u.a 2)):=hh.X.cell 22;have x23:W.cell? ⟨gw,23,none⟩=some (.int .i64 (u.a 3)):=hh.X.cell 23;have x25:W.cell? ⟨gw,25,none⟩=some (.slice u.G u.ng u.cg):=hh.X.cell 25;clear hh hl;go_simp;try (with_reducible rfl)
      refine rdy1 22 (fun K hK=>?_);go_simp;go_at_call 136;refine (yI u.z u.a (some ad) u.np u.cp u.G u.ng u.cg w5).mono ?_;rintro e w6 ⟨⟨fw,rfl⟩,hb⟩;go_simp;have D6:=Hd (aa D4.o hb);have X6:=Hd (X5.o.below hb);refine hK.o _ _ D6.o (fun hHeld=>?_);clear hK K hb X5 D4;refine rdy1 23 (fun K hK=>?_);go_simp;go_at_call 135;refine (Ki u.p.cd u.p.ci s (by have:=HS.o;omega) fw ds v3.A v3.n v3.c W3.o.O.few.2.2 ms v3.Am v3.nm v3.cm W3.o.O.few.1 (by have:=W3.o.O.few.2.1;omega) W3.o.O.so w6 (W3.o.below D6.o).files (W3.o.below D6.o).aU).mono ?_;rintro e w7 ⟨x,ke,rfl,hx1,hx2,hb⟩;go_simp;have D7:=Hd (aa D6.o hb);have X7:=Hd (X6.o.below hb);have HX:=Hd (show x.nm.size≤12∧x.pa.size≤640 from ⟨hx1,hx2⟩);refine hK.o _ _ D7.o (fun hHeld=>?_);clear hK K hb hx1 hx2 X6 D6;refine tk hHeld 24 ?_ ?_ (tk hHeld 25 ?_ ?_ (tk hHeld 26 ?_ ?_ ?_));iterate 3
        rotate_left
        · intro W hSw;go_simp;try (with_reducible rfl)
      refine rdy1 27 (fun K hK=>?_);refine ag (by rfl) 223 (.tmp 7) (.tmp 74) (by rfl) X7.o (foC x) ?_ ?_ (dz _) rfl (bJ _) ?_
      · go_simp
      · go_simp
      have D8:=Hd (ai D7.o (Nat.le_refl _) (foC x));have X8:=Hd (X7.o.row (foC x));refine hK.o _ _ D8.o (fun hHeld=>?_);clear hK K X7 D7;generalize w7.setRow w3.heap.size (foC x)=w8 at *;refine tk hHeld 28 ?_ ?_ ?_;rotate_left
      · intro W hSw;go_simp;try (with_reducible rfl)
      refine wpAnyH_done (by kernel_rfl) ?_ _;have W8:=Hd (W3.o.below D8.o);have L8:=Hd (L3.o.below D8.o);have B8:=Hd (B3.o.trans (D8.o.mono W3.o.big));clear D8 hHeld;by_cases hke:ke=0;case neg=>
        obtain ⟨p1,p2⟩:=aN hke;clear hke;go_wp2_with fail;go_meet;exact ⟨ke,x,rfl,HX.o.1,HX.o.2,W8.o,X8.o,L8.o,B8.o,X8.o.lt⟩
      case pos=>
        subst hke;obtain ⟨gI,hI,hbI,hlI,hnI,IL⟩:=W8.o.yB (Nat.succ_pos k);have HI:=Hd hI;have k5:(k:Int) < (v3.nI:Int):=(by rw [hnI];omega);clear hI hnI;go_upto_region 10 with fail;have S9:=Hd (show WkS w8.drew base gw u v3 ds ms fk (k+1)∧Blk w8.drew w3.heap.size 223 (foC x)∧LkS base gw gp k u.np u.cp ad s pc w8.drew from ⟨W8.o.below (Below.refl w8.heap.size w8).drew,X8.o,L8.o.below (Below.refl w8.heap.size w8).drew⟩);have B9:=Hd (show Below base w w8.drew from B8.o.trans (Below.refl base w8).drew);clear W8 X8 L8 B8;refine wp_region_held_drew (S:=(fun W=>WkS W base gw u v3 ds ms fk (k+1)∧Blk W w3.heap.size 223 (foC x)∧LkS base gw gp k u.np u.cp ad s pc W)) (by kernel_rfl) S9.o (fun hHeld=>?_);generalize w8.drew=w9 at *;refine tk hHeld 0 ?_ ?_ (tk hHeld 1 ?_ ?_ (tk hHeld 2 ?_ ?_ (tk hHeld 3 ?_ ?_ (tk hHeld 4 ?_ ?_ (tk hHeld 5 ?_ ?_ (tk hHeld 6 ?_ ?_ (tk hHeld 7 ?_ ?_ (tk hHeld 8 ?_ ?_ (tk hHeld 9 ?_ ?_ (tk hHeld 10 ?_ ?_ (tk hHeld 11 ?_ ?_ (tk hHeld 12 ?_ ?_ (tk hHeld 13 ?_ ?_ (tk hHeld 14 ?_ ?_ (tk hHeld 15 ?_ ?_ (tk hHeld 16 ?_ ?_ (tk hHeld 17 ?_ ?_ (tk hHeld 18 ?_ ?_ (tk hHeld 19 ?_ ?_ (tk hHeld 20 ?_ ?_ (tk hHeld 21 ?_ ?_ (tk hHeld 22 ?_ ?_ (tk hHeld 23 ?_ ?_ ?_)))))))))))))))))))))));iterate 24
          rotate_left
          · intro W hSw;have hh:=hSw.1;have x24:=hSw.2.2.x24;have y:=hSw.2.2.y;have py:W.cell? ⟨gp,k,none⟩=some (.int .i64 (p k)):=(hSw.2.2.pm.cell k).trans HPK.o;have x30:W.cell? ⟨gw,30,none⟩=some (.slice (some ⟨gI,0,none⟩) v3.nI v3.cI):=(by rw [← HI.o];exact hh.X.cell 30);have x0:W.cell? ⟨gw,0,none⟩=some (.slice v3.A v3.n v3.c):=hh.X.cell 0;have x1:W.cell? ⟨gw,1,none⟩=some (.slice v3.Am v3.nm v3.cm):=hh.X.cell 1;clear hh;have z0:W.cell? ⟨w3.heap.size,0,none⟩=some (.int .i64 x.dd):=hSw.2.1.cell 0;have z1:W.cell? ⟨w3.heap.size,1,none⟩=some (.int .i64 x.di):=hSw.2.1.cell 1;have z2:W.cell? ⟨w3.heap.size,2,none⟩=some (.string x.nm):=hSw.2.1.cell 2;have z3:W.cell? ⟨w3.heap.size,3,none⟩=some (.int .i64 x.fd):=hSw.2.1.cell 3;have z4:W.cell? ⟨w3.heap.size,4,none⟩=some (.int .i64 x.fi):=hSw.2.1.cell 4;have z5:W.cell? ⟨w3.heap.size,5,none⟩=some (.bool x.ex):=hSw.2.1.cell 5;have z6:W.cell? ⟨w3.heap.size,6,none⟩=some (.bool x.sl):=hSw.2.1.cell 6;have z7:W.cell? ⟨w3.heap.size,7,none⟩=some (.string x.pa):=hSw.2.1.cell 7;go_simp;try (with_reducible rfl)
        refine rdy1 24 (fun K hK=>?_);go_simp;go_at_call 137;refine (Cs s (p k) x ds v3.A v3.n v3.c W3.o.O.few.2.2 v3.Am v3.nm v3.cm w9 S9.o.1.files).mono ?_;rintro e w10 ⟨yi,yr,rfl,hy1,hy2,hy3,hb⟩;go_simp;have S10:=Hd (show WkS w10 base gw u v3 ds ms fk (k+1)∧Blk w10 w3.heap.size 223 (foC x)∧LkS base gw gp k u.np u.cp ad s pc w10 from ⟨S9.o.1.below hb,S9.o.2.1.below hb,S9.o.2.2.below hb⟩);have B10:=Hd (B9.o.trans (hb.mono S9.o.1.big));have HOK:=Hd (show vk (yi,yr) from ⟨by show yr.gv.size≤128;rw [hy1];exact HS.o,by show yr.pa.size≤640;rw [hy2];exact HX.o.2,by show yr.nm.size≤12;rw [hy3];exact HX.o.1⟩);refine hK.o _ _ S10.o (fun hHeld=>?_);clear hK K hb hy1 hy2 hy3 S9 B9;refine tk hHeld 25 ?_ ?_ ?_;rotate_left
        · intro W hSw;go_simp;try (with_reducible rfl)
        refine rdy1 26 (fun K hK=>?_);refine lv (by rfl) 73 (.tmp 103) (.tmp 102) (by rfl) gI (k * 13) (aO yi yr) ?_ ?_ (S10.o.1.Gd HI.o (Nat.lt_succ_self k)) (iH _ _) (kg _ _) ?_
        · go_simp;try rfl
        · go_simp;try rfl
        obtain ⟨LQ,IP⟩:=S10.o.1.Kk HI.o (Nat.lt_succ_self k) yi yr HOK.o;have hne1:w3.heap.size≠gI:=fun e=>by have h1:∃ is,ax kI w10 base (.slice v3.I v3.nI v3.cI) is:=⟨_,S10.o.1.O.it.choose_spec.1⟩;obtain ⟨is,h1⟩:=h1;exact az h1 S10.o.2.1 (by decide) (by rw [HI.o,e];rfl)
        have hne2:gp≠gI:=fun e=>by have h1:∃ is,ax kI w10 base (.slice v3.I v3.nI v3.cI) is:=⟨_,S10.o.1.O.it.choose_spec.1⟩;obtain ⟨is,h1⟩:=h1;exact az h1 S10.o.2.2.pm (by decide) (by rw [HI.o,e];rfl)
        have S11:=Hd (show WkS (w10.setCells gI (k * 13) (aO yi yr).toList) base gw u v3 ds ms fk (k+1)∧Blk (w10.setCells gI (k * 13) (aO yi yr).toList) w3.heap.size 223 (foC x)∧LkS base gw gp k u.np u.cp ad s pc (w10.setCells gI (k * 13) (aO yi yr).toList) from ⟨LQ,S10.o.2.1.grown IP (fun e=>hne1 (Option.some.inj e).symm),S10.o.2.2.far IP (fun q e=>by injection e with e;subst e;exact ⟨hbI,IL,fun e=>hne2 e.symm⟩)⟩);have B11:=Hd (B10.o.grown IP S10.o.1.big (fun q e=>by injection e with e;subst e;exact hbI));refine hK.o _ _ S11.o (fun hHeld=>?_);clear hK K LQ IP hne1 hne2 S10 B10;generalize w10.setCells gI (k * 13) (aO yi yr).toList=w11 at *;refine wpAnyH_done (by kernel_rfl) ?_ _;go_wp2_with fail;go_meet;exact ⟨0,x,rfl,HX.o.1,HX.o.2,S11.o.1,S11.o.2.1,S11.o.2.2,B11.o,S11.o.2.1.lt⟩
   case rest=>
   obtain ⟨q2,x,rfl,hx1,hx2,hww,hxx,hll,hbb,hsz⟩:=hcut;have HX:=Hd (show x.nm.size≤12∧x.pa.size≤640 from ⟨hx1,hx2⟩);have W12:=Hd (hww.below (Below.refl wc.heap.size wc).drew);have S12:=Hd (show Blk wc.drew w3.heap.size 223 (foC x)∧LkS base gw gp k u.np u.cp ad s pc wc.drew from ⟨hxx,hll.below (Below.refl wc.heap.size wc).drew⟩);have B12:=Hd (show Below base w wc.drew from hbb.trans (Below.refl base wc).drew);clear hx1 hx2 hww hxx hll hbb hsz W4 X4 L4 B4 B43 W3 L3 B3;go_upto_region 11 with fail;refine wp_region_held_drew (S:=(fun W=>Blk W w3.heap.size 223 (foC x)∧LkS base gw gp k u.np u.cp ad s pc W)) (by kernel_rfl) S12.o (fun hHeld=>?_);generalize wc.drew=w12 at *;refine tk hHeld 0 ?_ ?_ (tk hHeld 1 ?_ ?_ (tk hHeld 2 ?_ ?_ (tk hHeld 3 ?_ ?_ (tk hHeld 5 ?_ ?_ ?_))));iterate 5
    rotate_left
    · intro W hSw;have z0:W.cell? ⟨w3.heap.size,0,none⟩=some (.int .i64 x.dd):=hSw.1.cell 0;have z1:W.cell? ⟨w3.heap.size,1,none⟩=some (.int .i64 x.di):=hSw.1.cell 1;have z2:W.cell? ⟨w3.heap.size,2,none⟩=some (.string x.nm):=hSw.1.cell 2;have z3:W.cell? ⟨w3.heap.size,3,none⟩=some (.int .i64 x.fd):=hSw.1.cell 3;have z4:W.cell? ⟨w3.heap.size,4,none⟩=some (.int .i64 x.fi):=hSw.1.cell 4;have z5:W.cell? ⟨w3.heap.size,5,none⟩=some (.bool x.ex):=hSw.1.cell 5;have z6:W.cell? ⟨w3.heap.size,6,none⟩=some (.bool x.sl):=hSw.1.cell 6;have z7:W.cell? ⟨w3.heap.size,7,none⟩=some (.string x.pa):=hSw.1.cell 7;go_simp;try (with_reducible rfl)
   refine bq [4,6] [(4,108),(6,110)] (fun W=>WkS W base gw u v3 ds ms fk (k+1)∧Below base w W) (vR (.slice v3.F v3.nF v3.cF) x) (fun A B=>Below A.heap.size A B) 4 hHeld ⟨W12.o,B12.o⟩ rfl (by kernel_rfl) (by kernel_rfl) (fun A B hb=>⟨fun h=>⟨h.1.below hb,h.2.below hb⟩,fun h=>⟨h.1.below hb,h.2.trans (hb.mono h.1.big)⟩,fun j x h=>vR.below hb j x h⟩) ?steps ?fin;case steps=>
    refine aZ.cons (i:=4) rfl (fun u W hSW hJW hpre K hK=>?_) ?_
    · dsimp only [bL,List.foldl];have x26:W.cell? ⟨gw,26,none⟩=some (.slice v3.F v3.nF v3.cF):=hJW.1.X.cell 26;go_simp;exact hK.o _ _ _ (by kernel_rfl) ⟨fun _=>rfl,fun h=>absurd h (by decide)⟩ (Below.refl _ _)
    refine aZ.cons (i:=6) rfl (fun u W hSW hJW hpre K hK=>?_) ?_
    · dsimp only [bL,List.foldl];go_simp;exact hK.o (.slice (some ⟨W.heap.size,0,none⟩) 1 1) _ _ (by kernel_rfl) ⟨fun h=>absurd h (by decide),fun _=>⟨W.heap.size,rfl,aI EFo W (foC x) 223 x rfl (by simp)⟩⟩ ((Below.refl _ _).alloc (Nat.le_refl _) _)
    exact aZ.nil
   case fin=>
   intro uu W hHeld hJ hV;dsimp only [bL,List.foldl];have e4:=(hV 4 rfl).1 rfl;obtain ⟨g9,e9,h9⟩:=(hV 6 rfl).2 rfl;simp only [e4,e9];go_simp;have WJ:=Hd hJ.1;have BJ:=Hd hJ.2;have LJ:=Hd hHeld;have hf1:=WJ.o.O.ff;clear hV e4 e9 hJ S12 W12 B12;refine rdy1 7 (fun K hK=>?_);refine aQ EFo (by rfl) (.tmp 108) (.tmp 110) (by rfl) base (.slice v3.F v3.nF v3.cF) fk (by rfl) hf1 W.heap.size (some ⟨g9,0,none⟩) 1 1 [x] (by rfl) (by rfl) h9 (by rw [FL.o];simp;omega) WJ.o.big ?_;intro v2 w2 ho2 hg2 EZ;obtain ⟨A2,c2,ev,_⟩:=ho2.at;rw [show (fk ++ [x]).length=k+1 by simp [FL.o]] at ev;subst ev;have hrow:∀ q,(Value.slice v3.F v3.nF v3.cF).ownBlock=some q→base≤q∧q≠gw∧q≠gp:=fun q e=>⟨hf1.ge q e,fun e2=>az hf1 WJ.o.X (by decide) (e2 ▸ e),fun e2=>az hf1 LJ.o.2.pm (by decide) (e2 ▸ e)⟩;have L2:=Hd (LJ.o.2.far hg2 hrow);have Y2:=Hd (LJ.o.1.grown hg2 (fun e=>HBX.o _ e rfl));have X2:=Hd (WJ.o.X.grown hg2 (fun e=>(hrow _ e).2.1 rfl));have B2:=Hd (BJ.o.grown hg2 WJ.o.big (fun q e=>(hrow q e).1));have O2:=Hd (WJ.o.O.FD hg2 ho2 (fun x' hx=>by rcases List.mem_append.1 hx with hx | hx;exact WJ.o.O.fk x' hx;rw [List.mem_singleton] at hx;subst hx;exact HX.o):WkO w2 base { v3 with F:=A2,nF:=k+1,cF:=c2 } ds ms (fk ++ [x]) (k+1));clear EZ hg2 ho2 hrow h9 hf1;refine hK.o _ _ ⟨Y2.o,L2.o⟩ (fun hHeld=>?_);clear hK K;refine tk hHeld 8 ?_ ?_ (tk hHeld 9 ?_ ?_ ?_);iterate 2
    rotate_left
    · intro W hSw;go_simp;try (with_reducible rfl)
   have W3:=Hd (WkS.lay (i:=26) (x:= .slice A2 (k+1) c2) X2.o O2.o rfl HB.o HGH.o:WkS (w2.setCell ⟨gw,26,none⟩ (.slice A2 (k+1) c2)) base gw u { v3 with F:=A2,nF:=k+1,cF:=c2 } ds ms (fk ++ [x]) (k+1));have hyg:w3.heap.size≠gw:=fun e=>by have h1:w2.heap[gw]? =_:=X2.o;have h2:w2.heap[gw]? =some (.cells (foC x) 223 (0,0)):=e ▸ Y2.o;rw [h1] at h2;injection h2 with h2;injection h2 with h3 h4;exact absurd h4 (by decide)
   have L3:=Hd (show Blk (w2.setCell ⟨gw,26,none⟩ (.slice A2 (k+1) c2)) w3.heap.size 223 (foC x)∧LkS base gw gp k u.np u.cp ad s pc (w2.setCell ⟨gw,26,none⟩ (.slice A2 (k+1) c2)) from ⟨Y2.o.af _ hyg,L2.o.laid (i:=26) (by decide) _⟩);have B3:=Hd (B2.o.setCell (p:=⟨gw,26,none⟩) HB.o (.slice A2 (k+1) c2));have x26:w2.cell? ⟨gw,26,none⟩=some (.slice v3.F v3.nF v3.cF):=X2.o.cell 26;have f26:=X2.o.free 26;refine rdy1 10 (fun K hK=>?_);go_simp;refine hK.o _ _ L3.o (fun hHeld=>?_);clear hK K;clear x26 f26 hyg X2 O2 L2 Y2 B2 WJ LJ BJ;generalize w2.setCell ⟨gw,26,none⟩ (.slice A2 (k+1) c2)=w13 at *;refine wpAnyH_done (by kernel_rfl) ?_ _;obtain ⟨wk1,wk2⟩:=WK.o;go_wp2_with fail;clear wk1 wk2;go_roundw;case rel=>exact ⟨k+1,q2,_,fk ++ [x],hlt,rfl,rfl,W3.o,by simp [FL.o],B3.o,L3.o.2.pm⟩
   case measure=>exact aL hlt _ rfl
theorem Oc (a:Addr) (w:World):(loadVar 203 a).run Tryz.prog w=(load a).run Tryz.prog w:=by
 unfold loadVar;simp [go_sem]
theorem AR {w:World} {g:Nat} {x:Rul} {v:Value} (h:xC w g x v):(loadVar 90 ⟨g,0,none⟩).run Tryz.prog w= .ok (CE x v) w:=run_loadVar_row w g _ _ _ _ _ h Tryz.underlying90 rfl (Ar _ _)
structure ClX (w:World) (g5 g6 g7:Nat) (c:Ctx) (r:bN) (it:Value):Prop where
 x5:Blk w g5 3 #[.int .i64 5]
 x6:Blk w g6 203 #[.slice none 0 0]
 x7:bU w g7 c r it
theorem ClX.below {w w' :World} {g5 g6 g7:Nat} {c:Ctx} {r:bN} {it:Value} (h:ClX w g5 g6 g7 c r it) (hb:Below w.heap.size w w'):ClX w' g5 g6 g7 c r it:=⟨h.x5.below hb,h.x6.below hb,h.x7.below hb⟩
attribute [-go_sem] loadVar
attribute [local go_sem] xD xE CL CO CP Oc
attribute [local irreducible] bE
def FsP (ks:Option Int) (t:Int) (w:World) (e:Ending) (w' :World):Prop:=((m1 ks t=true∧∃ k:Nat,k < 1∧e= .returned (.int .i64 (k:Int)))∨(m1 ks t=false∧e= .returned (.int .i64 (-1))))∧Below w.heap.size w w'
section
variable (w:World) (c:Ctx) (r:bN) (it:Value) (hty:(c.ty != 0)=true)
include hty
theorem Dz (ks:Option Int) (T:Option Addr) (tn tc:Nat) (htn:tn=(t1 ks).length) (hT:eO w w.heap.size T (t1 ks)):
  Calls Tryz.prog 222 #[CE (r1 ks) (.slice T tn tc), .bool false,qa c r it] w (wo (m1 ks c.ty) w):=by
 have S0:=Hd (MtB.start w (r1 ks) (.slice T tn tc) c r it);have HT:=Hd (hT.keep S0.o.low (Nat.le_refl _));have HN:=Hd htn;have HTY:=Hd hty;have h19:=Hd (show tn≤1 by rw [htn];cases ks <;> simp [t1])
 clear hT htn hty;go_in;go_upto_region 1 with fail;generalize (w.alloc (.cells (pM (r1 ks) (.slice T tn tc)) 90)).alloc (.cells (bE c r it) 54)=W at *;have c2:W.cell? ⟨w.heap.size,2,none⟩=some (.int .u64 0):=S0.o.R.c2;have c3:W.cell? ⟨w.heap.size,3,none⟩=some (.slice T tn tc):=S0.o.R.c3;go_wp2_with fail;clear c2 c3;go_loopw [24] (fun i wr=>∃ j:Nat,j≤tn∧i= .int .i64 (j:Int)∧Hid (j < tn∨m1 ks c.ty=true)∧Below W.heap.size W wr) (fun i _=>tn - (intOf i).toNat);case atStart=>exact ⟨0,Nat.zero_le _,rfl,Hd (by have:=HN.o;cases ks with | none=>exact .inr rfl | some z=>exact .inl (by rw [this];exact Nat.one_pos)),Below.refl _ _⟩
 case round=>
  obtain ⟨j,hj,rfl,hm,hb⟩:=hrel;have S1:=Hd (S0.o.below hb);have HT1:=Hd (HT.o.keep hb (by have:=S0.o.low.size;omega));have HB:=Hd hb;clear hb;by_cases hlt:j < tn;case pos=>
   obtain ⟨z,hz,e1,e2⟩:=AQ ks (by rw [← HN.o];exact hlt);obtain ⟨ad,rfl,xI,hcx⟩:=HT1.o j (by rw [← HN.o];exact hlt);rw [e1] at hcx;have HCX:=Hd hcx;have HMZ:=Hd (show m1 ks c.ty=(c.ty == z) by rw [hz];rfl);clear hz e1 e2 hm hcx;have k0:(0:Int)≤(j:Int):=(by omega);have kn:(j:Int) < (tn:Int):=(by omega);obtain ⟨q7,q8⟩:=bg (show j≤1000000 by have:=h19.o;omega) (Nat.le_refl _);have hl:(loadVar 85 (ad.add (j * 5))).run Tryz.prog wr= .ok (.agg (aV 22 1 z ⟨#[]⟩ 0)) wr:=wu HCX.o;have T2:=Hd (Blk.new wr (aV 22 1 z ⟨#[]⟩ 0) 85);have S2:=Hd (S1.o.below ((Below.refl wr.heap.size wr).alloc (Nat.le_refl _) (.cells (aV 22 1 z ⟨#[]⟩ 0) 85)));have HB2:=Hd (HB.o.alloc HB.o.size (.cells (aV 22 1 z ⟨#[]⟩ 0) 85));go_upto_region 6 with fail;clear hl;generalize wr.alloc (.cells (aV 22 1 z ⟨#[]⟩ 0) 85)=w2 at *;have hl1:=qm T2.o;have hl2:=je S2.o.C;go_wp2_with fail;clear hl1 hl2;refine (Dy z w2 c r it HTY.o).mono ?_;rintro e w3 ⟨rfl,hb3⟩;have HB3:=Hd (aa HB2.o hb3);clear hb3;cases hev:(c.ty == z) with
   | true=>
    have HF:=Hd (HMZ.o.trans hev);go_wp2_with fail;go_roundw;case rel=>exact ⟨j+1,hlt,by go_num,Hd (.inr HF.o),HB3.o⟩
    case measure=>exact aL hlt _ rfl
   | false=>
    have HF:=Hd (HMZ.o.trans hev);go_wp2_with fail;go_ret;exact ⟨oG HF.o.symm,S0.o.low.trans (HB3.o.mono S0.o.low.size)⟩
  case neg=>
   have q9:¬ (j:Int) < (tn:Int):=(by omega);have c4:wr.cell? ⟨w.heap.size,4,none⟩=some (.int .i64 0):=S1.o.R.c4;have HF:=Hd (hm.o.resolve_left hlt);go_wp2_with fail;go_ret;exact ⟨oG HF.o.symm,S0.o.low.trans (HB.o.mono S0.o.low.size)⟩
theorem Ht (ks:Option Int) (T:Option Addr) (tc k:Nat) (g5 g6 g7:Nat) (hc:ClX w g5 g6 g7 c r it) (hT:eO w w.heap.size T (t1 ks)):
  Calls Tryz.prog 221 #[.int .i64 (k:Int),CE (r1 ks) (.slice T (t1 ks).length tc), .pointer (some ⟨g5,0,none⟩), .pointer (some ⟨g6,0,none⟩), .pointer (some ⟨g7,0,none⟩)] w (wo (m1 ks c.ty) w):=by
 have B0:=Hd ((Below.refl w.heap.size w).alloc (Nat.le_refl _) (.cells (pM (r1 ks) (.slice T (t1 ks).length tc)) 90));have X0:=Hd (show xC (w.alloc (.cells (pM (r1 ks) (.slice T (t1 ks).length tc)) 90)) w.heap.size (r1 ks) (.slice T (t1 ks).length tc) from Blk.new w _ _);have K0:=Hd (hc.below B0.o);have T0:=Hd (hT.keep B0.o (Nat.le_refl _));have HTY:=Hd hty;have kz:¬ (k:Int) < 0:=by omega
 clear hc hT hty;go_in;go_upto_region 1 with fail;generalize w.alloc (.cells (pM (r1 ks) (.slice T (t1 ks).length tc)) 90)=W at *;refine wp_region_held_drew (S:=(fun W' =>Below W.heap.size W W')) (by kernel_rfl) (Below.refl _ _).drew (fun hHeld=>?_);refine tk hHeld 0 ?_ ?_ (tk hHeld 1 ?_ ?_ (tk hHeld 2 ?_ ?_ (tk hHeld 3 ?_ ?_ (tk hHeld 4 ?_ ?_ (tk hHeld 5 ?_ ?_ (tk hHeld 6 ?_ ?_ (tk hHeld 7 ?_ ?_ (tk hHeld 8 ?_ ?_ (tk hHeld 9 ?_ ?_ (tk hHeld 10 ?_ ?_ ?_))))))))));iterate 11
  rotate_left
  · intro w' hSw;have q0:w'.cell? ⟨w.heap.size,0,none⟩=some (.int .i64 5):=(X0.o.below hSw).cell 0;have q5:=(K0.o.below hSw).x5.cell 0;have hl:=AR (X0.o.below hSw);have q6:=(K0.o.below hSw).x6.cell 0;go_simp;first | (with_reducible rfl) | (rw [if_neg (by first | omega | (simp;omega))])
 refine wpAnyH_take (i:=11) (v:=undef) rfl (by kernel_rfl) (by kernel_rfl) (by kernel_rfl) (fun _ _ _ h=>h) (Or.inr ⟨by kernel_rfl,rfl⟩) hHeld ?_;refine wpAnyH_take (i:=12) (v:=undef) rfl (by kernel_rfl) (by kernel_rfl) (by kernel_rfl) (fun _ _ _ h=>h) (Or.inr ⟨by kernel_rfl,rfl⟩) hHeld ?_;refine wpAnyH_take (i:=13) (v:=undef) rfl (by kernel_rfl) (by kernel_rfl) (by kernel_rfl) (fun _ _ _ h=>h) (Or.inr ⟨by kernel_rfl,rfl⟩) hHeld ?_;refine wpAnyH_take (i:=14) (v:=undef) rfl (by kernel_rfl) (by kernel_rfl) (by kernel_rfl) (fun _ _ _ h=>h) (Or.inr ⟨by kernel_rfl,rfl⟩) hHeld ?_;refine tk hHeld 15 ?_ ?_ (tk hHeld 16 ?_ ?_ ?_);iterate 2
  rotate_left
  · intro w' hSw;have hl:=je (K0.o.below hSw).x7;go_simp;first | (with_reducible rfl) | (rw [if_neg (by first | omega | (simp;omega))])
 refine rdy1 17 (fun K hK=>?_);go_simp;go_at_call 222;refine (Dz _ c r it HTY.o ks T _ tc rfl ((T0.o.keep hHeld B0.o.size).more (by have:=B0.o.size;have:=hHeld.size;omega))).mono ?_;rintro e w2 ⟨rfl,hb2⟩;have hh:=hHeld.trans (hb2.mono hHeld.size);go_simp;refine hK.o _ _ hh (fun hHeld=>?_);clear hK K hb2 hh;refine tk hHeld 18 ?_ ?_ (tk hHeld 19 ?_ ?_ ?_);iterate 2
  rotate_left
  · intro w' hSw;go_simp;first | (with_reducible rfl) | (rw [if_neg (by first | omega | (simp;omega))])
 refine wpAnyH_done (by kernel_rfl) ?_ _;go_simp;go_wp2_with fail;go_ret;exact ⟨by simp,B0.o.trans (hHeld.mono B0.o.size)⟩
theorem DC (ks:Option Int) (x:Ru) (hx:x.r=r1 ks) (A:Option Addr) (cc g5 g6 g7:Nat) (hc:ClX w g5 g6 g7 c r it) (hR:lC w w.heap.size A [x]):
  Calls Tryz.prog 220 #[.slice A 1 cc, .func (.func 221) #[] #[.pointer (some ⟨g5,0,none⟩), .pointer (some ⟨g6,0,none⟩), .pointer (some ⟨g7,0,none⟩)]] w (FsP ks c.ty w):=by
 have HC:=Hd hc;have HR:=Hd hR;have HX:=Hd hx;have HTY:=Hd hty;clear hc hR hx hty;go_in;go_wp2_with fail;go_loopw [9] (fun i wr=>∃ k:Nat,k≤1∧i= .int .i64 (k:Int)∧Hid (k < 1∨m1 ks c.ty=false)∧Below w.heap.size w wr) (fun i _=>1 - (intOf i).toNat);case atStart=>exact ⟨0,Nat.zero_le _,rfl,Hd (.inl Nat.one_pos),Below.refl _ _⟩
 case round=>
  obtain ⟨k,hk,rfl,hm,hb⟩:=hrel;have C1:=Hd (HC.o.below hb);have R1:=Hd (HR.o.keep hb (Nat.le_refl _));have HB:=Hd hb;clear hb;by_cases hlt:k < 1;case pos=>
   have k1:(k:Int) < 1:=(by omega);have k0:(0:Int)≤(k:Int):=(by omega);obtain ⟨ad,rfl,xI,hcx⟩:=R1.o.at_ k hlt;rw [List.getElem_singleton] at hcx;have HTS:=Hd (R1.o.ts x (List.mem_singleton.2 rfl)).1;rw [HX.o] at HTS;have hl:(loadVar 90 (ad.add (k * 8))).run Tryz.prog wr= .ok (CE (r1 ks) (.slice x.A (t1 ks).length x.c)) wr:=(by have h:=Az (a:=ad.add (k * 8)) hcx;rw [show x.sl= .slice x.A x.r.ts.length x.c from rfl,HX.o] at h;exact h);have X2:=Hd (show xC (wr.alloc (.cells (pM (r1 ks) (.slice x.A (t1 ks).length x.c)) 90)) wr.heap.size (r1 ks) (.slice x.A (t1 ks).length x.c) from Blk.new wr _ _);have HA:=Hd ((Below.refl wr.heap.size wr).alloc (Nat.le_refl _) (.cells (pM (r1 ks) (.slice x.A (t1 ks).length x.c)) 90));have HB2:=Hd (HB.o.alloc HB.o.size (.cells (pM (r1 ks) (.slice x.A (t1 ks).length x.c)) 90));have C2:=Hd (C1.o.below HA.o);have T2:=Hd (HTS.o.keep HA.o HB.o.size);clear hcx;go_upto_region 4 with fail;clear hl;generalize wr.alloc (.cells (pM (r1 ks) (.slice x.A (t1 ks).length x.c)) 90)=w2 at *;have hl:=AR X2.o;go_wp2_with fail;clear hl;refine (Ht w2 c r it HTY.o ks x.A x.c k g5 g6 g7 C2.o (T2.o.more HB2.o.size)).mono ?_;rintro e w3 ⟨rfl,hb3⟩;have HB3:=Hd (aa HB2.o hb3);clear hb3;cases hm:m1 ks c.ty with
   | false=>
    have HF:=Hd hm;clear hm;obtain ⟨q7,q8⟩:=bg (show k≤1000000 by omega) (Nat.le_refl _);go_wp2_with fail;clear q7 q8;go_roundw;case rel=>exact ⟨k+1,hlt,by go_num,Hd (.inr HF.o),HB3.o⟩
    case measure=>exact aL hlt _ rfl
   | true=>
    have HF:=Hd hm;clear hm;go_wp2_with fail;go_ret;exact ⟨.inl ⟨HF.o,k,hlt,rfl⟩,HB3.o⟩
  case neg=>
   have k1:¬ (k:Int) < 1:=(by omega);have HF:=Hd (hm.o.resolve_left hlt);go_wp2_with fail;go_ret;exact ⟨.inr ⟨HF.o,rfl⟩,HB.o⟩
theorem DF (ks:Option Int) (x:Ru) (hx:x.r=r1 ks) (A:Option Addr) (cc:Nat) (hR:lC w w.heap.size A [x]):
   Calls Tryz.prog 157 #[.slice A 1 cc, .int .i64 5, .slice none 0 0,qa c r it] w (FsP ks c.ty w):=by
 have s1:(w.alloc (.cells #[.int .i64 5] 3)).heap.size=w.heap.size+1:=by simp
 have s2:((w.alloc (.cells #[.int .i64 5] 3)).alloc (.cells #[.slice none 0 0] 203)).heap.size=w.heap.size+1+1:=by simp
 have B0:=Hd (show Below w.heap.size w (((w.alloc (.cells #[.int .i64 5] 3)).alloc (.cells #[.slice none 0 0] 203)).alloc (.cells (bE c r it) 54)) from (((Below.refl w.heap.size w).alloc (Nat.le_refl _) _).alloc (by rw [s1];omega) _).alloc (by rw [s2];omega) _);have h6:=(Blk.new (w.alloc (.cells #[.int .i64 5] 3)) #[.slice none 0 0] 203).alloc (.cells (bE c r it) 54);have h7:=Blk.new ((w.alloc (.cells #[.int .i64 5] 3)).alloc (.cells #[.slice none 0 0] 203)) (bE c r it) 54;rw [s1] at h6;rw [s2] at h7;have K0:=Hd (show ClX (((w.alloc (.cells #[.int .i64 5] 3)).alloc (.cells #[.slice none 0 0] 203)).alloc (.cells (bE c r it) 54)) w.heap.size (w.heap.size+1) (w.heap.size+1+1) c r it from ⟨((Blk.new w _ _).alloc _).alloc _,h6,h7⟩);have R0:=Hd ((hR.keep B0.o (Nat.le_refl _)).more B0.o.size);have HX:=Hd hx;have HTY:=Hd hty;clear hR hx hty s1 s2 h6 h7;go_in;go_upto_region 1 with fail;generalize ((w.alloc (.cells #[.int .i64 5] 3)).alloc (.cells #[.slice none 0 0] 203)).alloc (.cells (bE c r it) 54)=W at *;go_wp2_with fail;refine (DC W c r it HTY.o ks x HX.o A cc w.heap.size (w.heap.size+1) (w.heap.size+1+1) K0.o R0.o).mono ?_;rintro e w1 ⟨h | h,hb⟩
 · obtain ⟨h1,k,h2,rfl⟩:=h;have HF:=Hd (And.intro h1 h2);have B1:=Hd (aa B0.o hb);clear hb h1 h2;go_wp2_with fail;go_ret;exact ⟨.inl ⟨HF.o.1,k,HF.o.2,rfl⟩,B1.o⟩
 · obtain ⟨h1,rfl⟩:=h;have HF:=Hd h1;have B1:=Hd (aa B0.o hb);clear hb h1;go_wp2_with fail;go_ret;exact ⟨.inr ⟨HF.o,rfl⟩,B1.o⟩
end
theorem Hu (ks:Option Int) (x:Ru) (hx:x.r=r1 ks) (A:Option Addr) (c:Nat) (v2:Value) (cx:Ctx) (cr:bN) (it:Value) (t:Int) (w:World) (hR:lC w w.heap.size A [x]):
  Calls Tryz.prog 94 #[.agg #[.slice A 1 c,v2],qa cx cr it, .int .i64 t] w (wo (nU t && m1 ks t) w):=by
 have HX:=Hd hx;have B0:=Hd (show Below w.heap.size w ((w.alloc (.cells #[.slice A 1 c,v2] 41)).alloc (.cells (bE cx cr it) 54)) from ((Below.refl w.heap.size w).alloc (Nat.le_refl _) _).alloc (by simp) _);have V0:=Hd ((Blk.new w #[.slice A 1 c,v2] 41).alloc (.cells (bE cx cr it) 54));have C0:=Hd (show bU ((w.alloc (.cells #[.slice A 1 c,v2] 41)).alloc (.cells (bE cx cr it) 54)) (w.heap.size+1) cx cr it by
  have h:=Blk.new (w.alloc (.cells #[.slice A 1 c,v2] 41)) (bE cx cr it) 54;simpa using h)
 have R0:=Hd (hR.keep B0.o (Nat.le_refl _));clear hR hx;cases ht:nU t with
 | false=>
  obtain ⟨n1,n2,n3,n4,n5,n6⟩:=wE ht;clear ht;go_in;go_wp2_with fail;go_ret;exact ⟨rfl,B0.o⟩
 | true=>
  go_in;go_upto_region 1 with fail;generalize (w.alloc (.cells #[.slice A 1 c,v2] 41)).alloc (.cells (bE cx cr it) 54)=W at *;have h6:=qo ht;clear ht;have c24:=C0.o.ty;have f24:=C0.o.free 24;have C1:=Hd (show bU (W.setCell ⟨w.heap.size+1,24,none⟩ (.int .i64 t)) (w.heap.size+1) { cx with ty:=t } cr it by have h:=C0.o.put 24 (.int .i64 t);rw [nP] at h;exact h);have V1:=Hd (V0.o.af (.int .i64 t) (show w.heap.size≠(⟨w.heap.size+1,24,none⟩:Addr).block by simp));have B1:=Hd (B0.o.setCell (p:=⟨w.heap.size+1,24,none⟩) (by simp) (.int .i64 t));have R1:=Hd (R0.o.keep ((Below.refl w.heap.size W).setCell (p:=⟨w.heap.size+1,24,none⟩) (by simp) (.int .i64 t)) (Nat.le_refl _));have hl:=je C1.o;have v0:=V1.o.cell 0;have vv0:=V0.o.cell 0;rcases h6 with rfl | rfl | rfl | rfl | rfl | rfl;all_goals
   go_wp2_with fail;clear hl v0 vv0 c24 f24;refine (DF _ _ cr it (by rfl) ks x HX.o A c (R1.o.more B1.o.size)).mono ?_;rintro e W2 ⟨h | h,hb⟩
   · obtain ⟨h1,k,hkx,rfl⟩:=h;have HM:=Hd h1;have B2:=Hd (aa B1.o hb);have v0:=V1.o.below hb |>.cell 0;obtain ⟨ad,rfl,xI,hcx⟩:=((R1.o.more B1.o.size).below hb).at_ k hkx;rw [List.getElem_singleton] at hcx;obtain ⟨s0,s1,s2,s3,s4,s5,s6,s7⟩:=nM (a:=ad.add (k * 8)) hcx;rw [HX.o] at s1;have s1:W2.cell? ⟨(ad.add (k * 8)).block,(ad.add (k * 8)).off+1,none⟩=some (.int .i64 1):=s1;clear hcx s0 s2 s3 s4 s5 s6 s7 hb h1;have k1:(k:Int) < 1:=(by omega);have k0:(0:Int)≤(k:Int):=(by omega);have kz:¬ (k:Int) < 0:=(by omega);go_wp2_with fail;go_ret;exact ⟨oG HM.o.symm,B2.o⟩
   · obtain ⟨h1,rfl⟩:=h;have HM:=Hd h1;have B2:=Hd (aa B1.o hb);clear hb h1;go_wp2_with fail;go_ret;exact ⟨oG HM.o.symm,B2.o⟩
end Go.Proofs.YtollifnnpihfdaaGreatDoor
namespace Go.Proofs.YtollifnnpihfdaaGreatDoor
open Go.RowKit
attribute [local irreducible] bE
section
variable (k:Int) (w:World) (c:Ctx) (r:bN) (it:Value)
theorem xw:Calls Tryz.prog 191 #[.int .i64 22] w fun e w' =>e= .returned (.bool false)∧w=w' :=by
 go_in;go_wp2_with fail;go_ret;exact ⟨rfl,rfl⟩
theorem DK:Calls Tryz.prog 236 #[.int .i64 22] w fun e w' =>e= .returned (.bool false)∧w=w' :=by
 go_in;go_wp2_with fail;go_ret;exact ⟨rfl,rfl⟩
theorem Hy:Calls Tryz.prog 236 #[.int .i64 0] w fun e w' =>e= .returned (.bool false)∧w=w' :=by
 go_in;go_wp2_with fail;go_ret;exact ⟨rfl,rfl⟩
theorem zH (l:Int) (h:L5 l):Calls Tryz.prog 217 #[.int .i64 l, .int .i64 22] w fun e w' =>e= .returned (.bool (l == 5))∧w=w' :=by
 rcases h with rfl | rfl | rfl | rfl | rfl;all_goals
  go_in;go_wp2_with fail;go_ret;exact ⟨rfl,rfl⟩
theorem KQ (a b:Int):Calls Tryz.prog 264 #[.int .i64 1, .int .i64 a, .int .i64 b] w fun e w' =>e= .returned (.bool (a == b))∧w=w' :=by
 go_in;go_wp2_with fail;go_ret;exact ⟨rfl,rfl⟩
theorem zI (l:Int) (h:L5 l):Calls Tryz.prog 153 #[pY 22 1 k ⟨#[]⟩ 0, .int .i64 l] w fun e w' =>∃ x,(x == 0)=(l == 5)∧e= .returned (.int .i64 x)∧Below w.heap.size w w' :=by
 have HB:=Hd ((Below.refl w.heap.size w).alloc (Nat.le_refl _) (.cells (aV 22 1 k ⟨#[]⟩ 0) 85));have hA:=zH (w.alloc (.cells (aV 22 1 k ⟨#[]⟩ 0) 85)) l h;have hX:=xw (w.alloc (.cells (aV 22 1 k ⟨#[]⟩ 0) 85));obtain ⟨q0,q1,q2,q3,q4⟩:=dD (Blk.new w (aV 22 1 k ⟨#[]⟩ 0) 85);go_in;go_wp2_with fail;refine hA.mono ?_;rintro e w1 ⟨rfl,rfl⟩;rcases h with rfl | rfl | rfl | rfl | rfl;iterate 4
  go_wp2_with fail;go_ret;exact ⟨120,rfl,rfl,HB.o⟩
 iterate 2
  go_wp2_with fail;refine hX.mono ?_;rintro e w1 ⟨rfl,rfl⟩
 go_wp2_with fail;go_ret;exact ⟨0,rfl,rfl,HB.o⟩
theorem zJ:Calls Tryz.prog 234 #[pY 22 1 k ⟨#[]⟩ 0] w (wo true w):=by
 obtain ⟨hT,hB⟩:=MU w 22 1 k ⟨#[]⟩ 0;have HT:=Hd hT;have HB:=Hd hB;clear hT hB;go_in;go_wp2_with fail;generalize w.alloc (.cells (aV 22 1 k ⟨#[]⟩ 0) 85)=W at *;go_loopw [3] (fun i wr=>∃ l:Nat,l < 5∧i= .int .i64 ((l:Int)+1)∧Below W.heap.size W wr) (fun i _=>7 - (intOf i).toNat);case atStart=>exact ⟨0,by omega,rfl,Below.refl _ _⟩
 case round=>
  obtain ⟨l,hl,rfl,hb⟩:=hrel;have HBR:=Hd hb;obtain ⟨q0,q1,q2,q3,q4⟩:=dD (HT.o.below hb);have h5:=Hd (d5 hl);clear hb;go_wp2_with fail;refine (zI k _ _ h5.o).mono ?_;rintro e w1 ⟨x,hx,rfl,hb1⟩;have HX:=Hd hx;have HB1:=Hd (aa HBR.o hb1);clear hb1 q0 q1 q2 q3 q4 hx;cases hc:(x == 0) with
  | true=>
   go_wp2_with fail;go_ret;exact ⟨rfl,HB.o.trans (HB1.o.mono HB.o.size)⟩
  | false=>
   have h4:l+1 < 5:=by
    have h:=HX.o;rw [hc] at h;have h:=beq_eq_false_iff_ne.1 h.symm;omega
   go_wp2_with fail;go_roundw;case rel=>exact ⟨l+1,h4,by go_num,HB1.o⟩
   case measure=>simp [intOf];omega
variable (hty:(c.ty != 0)=true)
include hty
theorem Hz:Calls Tryz.prog 235 #[.int .i64 22,qa c r it] w (wo true w):=by
 have HB:=Hd ((Below.refl w.heap.size w).alloc (Nat.le_refl _) (.cells (bE c r it) 54));have q:=bU.ty (Blk.new w (bE c r it) 54);go_in;go_wp2_with fail;go_ret;exact ⟨rfl,HB.o⟩
omit hty in
theorem H6:Calls Tryz.prog 263 #[.int .i64 22,qa c r it,rR Itm.none irZ] w fun e w' =>e= .returned (.int .i64 c.ty)∧Below w.heap.size w w' :=by
 have HC:=Ce w c r it (.cells (aO Itm.none irZ) 73);have q1:=HC.p0;have q2:=HC.p1;have q3:=HC.p2;have q4:=HC.p3;have q5:=HC.p4;have q6:=HC.p5;have q7:=HC.p6;have q8:=HC.p7;have q9:=HC.c9;have q10:=HC.c10;have q11:=HC.comm;have q12:=HC.exe;have q13:=HC.c13;have q14:=HC.c14;clear HC;obtain ⟨hC,hI,hP,hB⟩:=MS w c r it Itm.none irZ _ rfl;have HB:=Hd hB;have ty:=hC.ty;clear hC hI hP hB;go_in;go_wp2_with fail;go_ret;exact ⟨rfl,HB.o⟩
attribute [-go_sem] loadVar
attribute [local go_sem] xD xE
omit hty in
theorem H7:Calls Tryz.prog 237 #[pY 22 1 k ⟨#[]⟩ 0,qa c r it,rR Itm.none irZ] w (wo (c.ty == k) w):=by
 obtain ⟨hT,hC,hI,hB⟩:=Lu w 22 1 k ⟨#[]⟩ 0 c r it Itm.none irZ;have HT:=Hd hT;have HC:=Hd hC;have HI:=Hd hI;have HB:=Hd hB;have CF:=Hd (fun W=>H6 W c r it);obtain ⟨q0,q1,q2,q3,q4⟩:=dD hT;clear hT hC hI hB;go_in;go_wp2_with fail;generalize ((w.alloc (.cells (aV 22 1 k ⟨#[]⟩ 0) 85)).alloc (.cells (bE c r it) 54)).alloc (.cells (aO Itm.none irZ) 73)=W at *;refine (xw _).mono ?_;rintro e w1 ⟨rfl,rfl⟩;go_wp2_with fail;have hlC:=je (show bU W.drew (w.heap.size+1) c r it from HC.o);have hlI:=Au (show gJ W.drew (w.heap.size+1+1) Itm.none irZ from HI.o)
 go_region_law (first
  | (go_simp;go_at_call 263;refine (CF.o _).mono ?_;rintro e w5 ⟨rfl,hb5⟩;have HB5:=Hd (HB.o.drew.trans (hb5.mono HB.o.drew.size));have k1:=(show jR w5 w.heap.size 22 1 k _ 0 from Blk.below (sw HT.o) hb5).c1;go_simp)
  | (go_simp;go_at_call 264;refine (KQ _ _ _).mono ?_;rintro e w6 ⟨rfl,rfl⟩;go_simp))
 all_goals
  go_wp2_with fail;go_ret;exact ⟨rfl,HB5.o⟩
theorem DL:Calls Tryz.prog 173 #[pY 22 1 k ⟨#[]⟩ 0,qa c r it] w (wo (c.ty == k) w):=by
 obtain ⟨hT,hC,hB,hS⟩:=Fx w 22 1 k ⟨#[]⟩ 0 c r it;have HT:=Hd hT;have HC:=Hd hC;have HB:=Hd hB;have HHF:=Hd (fun W=>Hz W c r it hty);have hl:=qm hT;clear hT hC hB hS hty;go_in;go_wp2_with fail;generalize (w.alloc (.cells (aV 22 1 k ⟨#[]⟩ 0) 85)).alloc (.cells (bE c r it) 54)=W at *;refine (zJ k _).mono ?_;rintro e w1 ⟨rfl,hb1⟩;have HT1:=Hd (show jR w1 w.heap.size 22 1 k ⟨#[]⟩ 0 from HT.o.below hb1);have HC1:=Hd (show bU w1 (w.heap.size+1) c r it from HC.o.below hb1);have HB1:=Hd (HB.o.trans (hb1.mono HB.o.size));clear HT HC HB hb1 hl;have q0:=HT1.o.c0;have q4:=HT1.o.c4;go_wp2_with (((with_reducible refine ib ?_ 54 (.tmp 3) ?_ HC1.o ?_ _ Tryz.underlying54 ?_ ?_ ?_);(iterate 4 rfl);exact jK _ _ _));refine (HHF.o _).mono ?_;rintro e w2 ⟨rfl,hb2⟩;have HT2:=Hd (show jR w2 w.heap.size 22 1 k ⟨#[]⟩ 0 from HT1.o.below hb2);have HC2:=Hd (show bU w2 (w.heap.size+1) c r it from HC1.o.below hb2);have HB2:=Hd (aa HB1.o hb2);clear HT1 HC1 HB1 hb2 q0 q4 HHF;have q0:=HT2.o.c0;have q4:=HT2.o.c4;go_wp2_with fail;refine (DK _).mono ?_;rintro e w3 ⟨rfl,rfl⟩;go_wp2_with fail;refine (Hy _).mono ?_;rintro e w3 ⟨rfl,rfl⟩;have hl:=qm HT2.o;go_wp2_with (((with_reducible refine ay ?_ 54 (.tmp 3) ?_ HC2.o ?_ _ Tryz.underlying54 ?_ ?_ ?_);(iterate 4 rfl);exact jK _ _ _));refine (H7 k _ c r it).mono ?_;rintro e w4 ⟨rfl,hb4⟩;have HB4:=Hd (aa HB2.o hb4);go_wp2_with fail;go_ret;exact ⟨rfl,HB4.o⟩
end
end Go.Proofs.YtollifnnpihfdaaGreatDoor
namespace Go.Proofs.YtollifnnpihfdaaGreatDoor
open Go.RowKit
attribute [-go_sem] loadVar
attribute [local go_sem] xD xE CL CO CP
attribute [local irreducible] bE
section
variable (w:World) (c:Ctx) (r:bN) (it:Value) (hty:(c.ty != 0)=true)
include hty
theorem DR (ks:Option Int) (T:Option Addr) (tn tc:Nat) (htn:tn=(t1 ks).length) (hT:eO w w.heap.size T (t1 ks)):
  Calls Tryz.prog 111 #[CE (r1 ks) (.slice T tn tc), .bool false,qa c r it] w (wo (m1 ks c.ty) w):=by
 have S0:=Hd (MtB.start w (r1 ks) (.slice T tn tc) c r it);have HT:=Hd (hT.keep S0.o.low (Nat.le_refl _));have HN:=Hd htn;have HTY:=Hd hty;have h19:=Hd (show tn≤1 by rw [htn];cases ks <;> simp [t1])
 clear hT htn hty;go_in;go_upto_region 1 with fail;generalize (w.alloc (.cells (pM (r1 ks) (.slice T tn tc)) 90)).alloc (.cells (bE c r it) 54)=W at *;have c2:W.cell? ⟨w.heap.size,2,none⟩=some (.int .u64 0):=S0.o.R.c2;have c4:W.cell? ⟨w.heap.size,4,none⟩=some (.int .i64 0):=S0.o.R.c4;go_wp2_with fail;clear c2 c4;go_loopw [7] (fun i wr=>∃ j:Nat,j≤tn∧i= .int .i64 (j:Int)∧Hid (j < tn∨m1 ks c.ty=true)∧Below W.heap.size W wr) (fun i _=>tn - (intOf i).toNat);case atStart=>exact ⟨0,Nat.zero_le _,rfl,Hd (by have:=HN.o;cases ks with | none=>exact .inr rfl | some z=>exact .inl (by rw [this];exact Nat.one_pos)),Below.refl _ _⟩
 case round=>
  obtain ⟨j,hj,rfl,hm,hb⟩:=hrel;have S1:=Hd (S0.o.below hb);have HT1:=Hd (HT.o.keep hb (by have:=S0.o.low.size;omega));have HB:=Hd hb;clear hb;have c3:wr.cell? ⟨w.heap.size,3,none⟩=some (.slice T tn tc):=S1.o.R.c3;by_cases hlt:j < tn;case pos=>
   obtain ⟨z,hz,e1,e2⟩:=AQ ks (by rw [← HN.o];exact hlt);obtain ⟨ad,rfl,xI,hcx⟩:=HT1.o j (by rw [← HN.o];exact hlt);rw [e1] at hcx;have HCX:=Hd hcx;have HMZ:=Hd (show m1 ks c.ty=(c.ty == z) by rw [hz];rfl);clear hz e1 e2 hm hcx;have k0:(0:Int)≤(j:Int):=(by omega);have kn:(j:Int) < (tn:Int):=(by omega);obtain ⟨q7,q8⟩:=bg (show j≤1000000 by have:=h19.o;omega) (Nat.le_refl _);go_upto_region 6 with fail;refine wp_region_held_drew (S:=(fun W' =>Below wr.heap.size wr W')) (by kernel_rfl) (Below.refl _ _).drew (fun hHeld=>?_);refine tk hHeld 0 ?_ ?_ (tk hHeld 1 ?_ ?_ (tk hHeld 2 ?_ ?_ (tk hHeld 3 ?_ ?_ (tk hHeld 4 ?_ ?_ (tk hHeld 5 ?_ ?_ ?_)))));iterate 6
     rotate_left
     · intro w' hSw;have c3:w'.cell? ⟨w.heap.size,3,none⟩=some (.slice (some ad) tn tc):=(S1.o.below hSw).R.c3;have hl:(loadVar 85 (ad.add (j * 5))).run Tryz.prog w' = .ok (.agg (aV 22 1 z ⟨#[]⟩ 0)) w' :=wu (fun i hi=>(hSw.cell (by rw [ig,ig];have:=HB.o.size;have:=S0.o.low.size;omega)).trans (HCX.o i hi));have Kw:=je (S1.o.below hSw).C;go_simp;first | (with_reducible rfl) | (rw [if_neg (by first | omega | (simp;omega))])
   refine rdy1 6 (fun K hK=>?_);go_simp;go_at_call 173;refine (DL z _ c r it HTY.o).mono ?_;rintro e w2 ⟨rfl,hb2⟩;have hh:=hHeld.trans (hb2.mono hHeld.size);go_simp;refine hK.o _ _ hh (fun hHeld=>?_);clear hK K hb2 hh;refine tk hHeld 7 ?_ ?_ ?_;rotate_left
   · intro w' hSw;go_simp;first | (with_reducible rfl) | (rw [if_neg (by first | omega | (simp;omega))])
   refine wpAnyH_done (by kernel_rfl) ?_ _;have HB2:=Hd (HB.o.trans (hHeld.mono HB.o.size));clear c3;cases hev:(c.ty == z) with
   | true=>
     have HF:=Hd (HMZ.o.trans hev);go_wp2_with fail;go_roundw;case rel=>exact ⟨j+1,hlt,by go_num,Hd (.inr HF.o),HB2.o⟩
     case measure=>exact aL hlt _ rfl
   | false=>
     have HF:=Hd (HMZ.o.trans hev);go_wp2_with fail;go_ret;exact ⟨oG HF.o.symm,S0.o.low.trans (HB2.o.mono S0.o.low.size)⟩
  case neg=>
   have q9:¬ (j:Int) < (tn:Int):=(by omega);have HF:=Hd (hm.o.resolve_left hlt);go_wp2_with fail;go_ret;exact ⟨oG HF.o.symm,S0.o.low.trans (HB.o.mono S0.o.low.size)⟩
theorem DT (ks:Option Int) (x:Ru) (hx:x.r=r1 ks) (A:Option Addr) (cc:Nat) (hR:lC w w.heap.size A [x]):
  Calls Tryz.prog 64 #[.slice A 1 cc, .int .i64 5, .slice none 0 0,qa c r it] w (FsP ks c.ty w):=by
 have B0:=Hd ((Below.refl w.heap.size w).alloc (Nat.le_refl _) (.cells (bE c r it) 54));have C0:=Hd (show bU _ w.heap.size c r it from Blk.new w (bE c r it) 54);have R0:=Hd (hR.keep B0.o (Nat.le_refl _));have HX:=Hd hx;have HTY:=Hd hty;clear hR hx hty;go_in;go_upto_region 1 with fail;generalize w.alloc (.cells (bE c r it) 54)=W at *;go_wp2_with fail;go_loopw [9] (fun i wr=>∃ k:Nat,k≤1∧i= .int .i64 (k:Int)∧Hid (k < 1∨m1 ks c.ty=false)∧Below W.heap.size W wr) (fun i _=>1 - (intOf i).toNat);case atStart=>exact ⟨0,Nat.zero_le _,rfl,Hd (.inl Nat.one_pos),Below.refl _ _⟩
 case round=>
  obtain ⟨k,hk,rfl,hm,hb⟩:=hrel;have C1:=Hd (C0.o.below hb);have R1:=Hd (R0.o.keep hb B0.o.size);have HB:=Hd hb;have HBT:=Hd (aa B0.o hb);clear hb;by_cases hlt:k < 1;case pos=>
   have k1:(k:Int) < 1:=(by omega);have k0:(0:Int)≤(k:Int):=(by omega);have kz:¬ (k:Int) < 0:=(by omega);obtain ⟨q7,q8⟩:=bg (show k≤1000000 by omega) (Nat.le_refl _);obtain ⟨ad,rfl,xI,hcx⟩:=R1.o.at_ k hlt;rw [List.getElem_singleton] at hcx;have HTS:=Hd (R1.o.ts x (List.mem_singleton.2 rfl)).1;rw [HX.o] at HTS;have HCX:=Hd hcx;have HC0:=Hd (show wr.cell? (ad.add (k * 8))=some (.int .i64 5) from by have h:=(nM (a:=ad.add (k * 8)) hcx).1;rw [HX.o] at h;exact h);have HRL:=Hd (show ∀ w' :World,Below wr.heap.size wr w' →(loadVar 90 (ad.add (k * 8))).run Tryz.prog w' = .ok (CE (r1 ks) (.slice x.A (t1 ks).length x.c)) w' from fun w' hSw=>by have h:=Az (a:=ad.add (k * 8)) (fun j hj=>(hSw.cell (by rw [ak,ak];have:=HB.o.size;have:=B0.o.size;omega)).trans (HCX.o j hj));rw [show x.sl= .slice x.A x.r.ts.length x.c from rfl,HX.o] at h;exact h);clear hcx HCX hm;go_upto_region 4 with fail;refine wp_region_held_drew (S:=(fun W' =>Below wr.heap.size wr W')) (by kernel_rfl) (Below.refl _ _).drew (fun hHeld=>?_);refine tk hHeld 0 ?_ ?_ (tk hHeld 1 ?_ ?_ (tk hHeld 2 ?_ ?_ (tk hHeld 3 ?_ ?_ (tk hHeld 4 ?_ ?_ (tk hHeld 5 ?_ ?_ (tk hHeld 6 ?_ ?_ (tk hHeld 7 ?_ ?_ (tk hHeld 8 ?_ ?_ (tk hHeld 9 ?_ ?_ (tk hHeld 10 ?_ ?_ (tk hHeld 11 ?_ ?_ (tk hHeld 12 ?_ ?_ (tk hHeld 13 ?_ ?_ (tk hHeld 14 ?_ ?_ (tk hHeld 15 ?_ ?_ (tk hHeld 16 ?_ ?_ ?_))))))))))))))));iterate 17
     rotate_left
     · intro w' hSw;have hl:=(hSw.cell (p:=ad.add (k * 8)) (by rw [ak];have:=HB.o.size;have:=B0.o.size;omega)).trans HC0.o;have Kw:=HRL.o _ hSw;go_simp;first | (with_reducible rfl) | (rw [if_neg (by first | omega | (simp;omega))])
   refine wpAnyH_take (i:=17) (v:=undef) rfl (by kernel_rfl) (by kernel_rfl) (by kernel_rfl) (fun _ _ _ h=>h) (Or.inr ⟨by kernel_rfl,rfl⟩) hHeld ?_;refine wpAnyH_take (i:=18) (v:=undef) rfl (by kernel_rfl) (by kernel_rfl) (by kernel_rfl) (fun _ _ _ h=>h) (Or.inr ⟨by kernel_rfl,rfl⟩) hHeld ?_;refine wpAnyH_take (i:=19) (v:=undef) rfl (by kernel_rfl) (by kernel_rfl) (by kernel_rfl) (fun _ _ _ h=>h) (Or.inr ⟨by kernel_rfl,rfl⟩) hHeld ?_;refine wpAnyH_take (i:=20) (v:=undef) rfl (by kernel_rfl) (by kernel_rfl) (by kernel_rfl) (fun _ _ _ h=>h) (Or.inr ⟨by kernel_rfl,rfl⟩) hHeld ?_;refine tk hHeld 21 ?_ ?_ (tk hHeld 22 ?_ ?_ ?_);iterate 2
     rotate_left
     · intro w' hSw;have hl:=je (C1.o.below hSw);go_simp;first | (with_reducible rfl) | (rw [if_neg (by first | omega | (simp;omega))])
   refine rdy1 23 (fun K hK=>?_);go_simp;go_at_call 111;refine (DR _ c r it HTY.o ks x.A _ x.c rfl ((HTS.o.keep hHeld (by have:=HB.o.size;have:=B0.o.size;omega)).more (by have:=HB.o.size;have:=B0.o.size;have:=hHeld.size;omega))).mono ?_;rintro e w2 ⟨rfl,hb2⟩;have hh:=hHeld.trans (hb2.mono hHeld.size);go_simp;refine hK.o _ _ hh (fun hHeld=>?_);clear hK K hb2 hh;refine tk hHeld 24 ?_ ?_ ?_;rotate_left
   · intro w' hSw;go_simp;first | (with_reducible rfl) | (rw [if_neg (by first | omega | (simp;omega))])
   refine wpAnyH_done (by kernel_rfl) ?_ _;have HB2:=Hd (HB.o.trans (hHeld.mono HB.o.size));cases hm:m1 ks c.ty with
   | false=>
     have HF:=Hd hm;clear hm;go_wp2_with fail;clear q7 q8;go_roundw;case rel=>exact ⟨k+1,hlt,by go_num,Hd (.inr HF.o),HB2.o⟩
     case measure=>exact aL hlt _ rfl
   | true=>
     have HF:=Hd hm;clear hm;go_wp2_with fail;go_ret;exact ⟨.inl ⟨HF.o,k,hlt,rfl⟩,B0.o.trans (HB2.o.mono B0.o.size)⟩
  case neg=>
   have k1:¬ (k:Int) < 1:=(by omega);have HF:=Hd (hm.o.resolve_left hlt);go_wp2_with fail;go_ret;exact ⟨.inr ⟨HF.o,rfl⟩,HBT.o⟩
end
theorem H9 (ks:Option Int) (x:Ru) (hx:x.r=r1 ks) (A:Option Addr) (c:Nat) (v2:Value) (cx:Ctx) (cr:bN) (it:Value) (t:Int) (w:World) (hR:lC w w.heap.size A [x]):
  Calls Tryz.prog 25 #[.agg #[.slice A 1 c,v2],qa cx cr it, .int .i64 t] w (wo (nU t && m1 ks t) w):=by
 have HX:=Hd hx;have B0:=Hd (show Below w.heap.size w ((w.alloc (.cells #[.slice A 1 c,v2] 41)).alloc (.cells (bE cx cr it) 54)) from ((Below.refl w.heap.size w).alloc (Nat.le_refl _) _).alloc (by simp) _);have V0:=Hd ((Blk.new w #[.slice A 1 c,v2] 41).alloc (.cells (bE cx cr it) 54));have C0:=Hd (show bU ((w.alloc (.cells #[.slice A 1 c,v2] 41)).alloc (.cells (bE cx cr it) 54)) (w.heap.size+1) cx cr it by
  have h:=Blk.new (w.alloc (.cells #[.slice A 1 c,v2] 41)) (bE cx cr it) 54;simpa using h)
 have R0:=Hd (hR.keep B0.o (Nat.le_refl _));clear hR hx;cases ht:nU t with
 | false=>
  obtain ⟨n1,n2,n3,n4,n5,n6⟩:=wE ht;clear ht;go_in;go_wp2_with fail;go_ret;exact ⟨rfl,B0.o⟩
 | true=>
  go_in;go_upto_region 1 with fail;generalize (w.alloc (.cells #[.slice A 1 c,v2] 41)).alloc (.cells (bE cx cr it) 54)=W at *;have h6:=qo ht;clear ht;have c24:=C0.o.ty;have f24:=C0.o.free 24;have C1:=Hd (show bU (W.setCell ⟨w.heap.size+1,24,none⟩ (.int .i64 t)) (w.heap.size+1) { cx with ty:=t } cr it by have h:=C0.o.put 24 (.int .i64 t);rw [nP] at h;exact h);have V1:=Hd (V0.o.af (.int .i64 t) (show w.heap.size≠(⟨w.heap.size+1,24,none⟩:Addr).block by simp));have B1:=Hd (B0.o.setCell (p:=⟨w.heap.size+1,24,none⟩) (by simp) (.int .i64 t));have R1:=Hd (R0.o.keep ((Below.refl w.heap.size W).setCell (p:=⟨w.heap.size+1,24,none⟩) (by simp) (.int .i64 t)) (Nat.le_refl _));have hl:=je C1.o;have v0:=V1.o.cell 0;have vv0:=V0.o.cell 0;rcases h6 with rfl | rfl | rfl | rfl | rfl | rfl;all_goals
   go_wp2_with fail;clear hl v0 vv0 c24 f24;refine (DT _ _ cr it (by rfl) ks x HX.o A c (R1.o.more B1.o.size)).mono ?_;rintro e W2 ⟨h | h,hb⟩
   · obtain ⟨h1,k,hkx,rfl⟩:=h;have HM:=Hd h1;have B2:=Hd (aa B1.o hb);have v0:=V1.o.below hb |>.cell 0;obtain ⟨ad,rfl,xI,hcx⟩:=((R1.o.more B1.o.size).below hb).at_ k hkx;rw [List.getElem_singleton] at hcx;obtain ⟨s0,s1,s2,s3,s4,s5,s6,s7⟩:=nM (a:=ad.add (k * 8)) hcx;rw [HX.o] at s1;have s1:W2.cell? ⟨(ad.add (k * 8)).block,(ad.add (k * 8)).off+1,none⟩=some (.int .i64 1):=s1;clear hcx s0 s2 s3 s4 s5 s6 s7 hb h1;have k1:(k:Int) < 1:=(by omega);have k0:(0:Int)≤(k:Int):=(by omega);have kz:¬ (k:Int) < 0:=(by omega);go_wp2_with fail;go_ret;exact ⟨oG HM.o.symm,B2.o⟩
   · obtain ⟨h1,rfl⟩:=h;have HM:=Hd h1;have B2:=Hd (aa B1.o hb);clear hb h1;go_wp2_with fail;go_ret;exact ⟨oG HM.o.symm,B2.o⟩
end Go.Proofs.YtollifnnpihfdaaGreatDoor
