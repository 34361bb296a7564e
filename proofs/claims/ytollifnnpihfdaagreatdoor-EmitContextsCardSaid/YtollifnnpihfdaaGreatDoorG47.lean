import Derived.Test.YtollifnnpihfdaaGreatDoorG39
import Derived.Test.YtollifnnpihfdaaGreatDoorG42
import Derived.Test.YtollifnnpihfdaaGreatDoorG45
import Derived.Test.YtollifnnpihfdaaGreatDoorG46
set_option maxRecDepth 100000
set_option maxHeartbeats 64000000
set_option linter.all false
namespace Go.Proofs.YtollifnnpihfdaaGreatDoor
open Go.RowKit
def TL (w:World) (e:Ending) (w' :World):Prop:=∃ g:Nat,e= .returned (.slice (some ⟨g,0,none⟩) 4 4)∧AtE kD w' w'.heap.size (some ⟨g,0,none⟩) [⟨#[97,48]⟩,⟨#[97,49]⟩,⟨#[97,50]⟩,⟨#[97,51]⟩]∧Below w.heap.size w w'
theorem EN (w:World):Calls Tryz.prog 103 #[] w (TL w):=by
 go_in;go_wp2_with fail;go_ret;exact ⟨w.heap.size,rfl,ny kD w #[.string ⟨#[97,48]⟩, .string ⟨#[97,49]⟩, .string ⟨#[97,50]⟩, .string ⟨#[97,51]⟩] 9 [⟨#[97,48]⟩,⟨#[97,49]⟩,⟨#[97,50]⟩,⟨#[97,51]⟩] rfl (by simp),(Below.refl _ _).alloc (Nat.le_refl _) _⟩
theorem BL {k:Nat} (h:k < 4):([⟨#[97,48]⟩,⟨#[97,49]⟩,⟨#[97,50]⟩,⟨#[97,51]⟩]:List ByteArray)[k]'(by simpa using h)=uN k:=by
 have:k=0∨k=1∨k=2∨k=3:=by omega
 rcases this with rfl | rfl | rfl | rfl
 · exact (by decide+kernel:(⟨#[97,48]⟩:ByteArray)=uN 0)
 · exact (by decide+kernel:(⟨#[97,49]⟩:ByteArray)=uN 1)
 · exact (by decide+kernel:(⟨#[97,50]⟩:ByteArray)=uN 2)
 · exact (by decide+kernel:(⟨#[97,51]⟩:ByteArray)=uN 3)
def mD (k:Nat) (v0:Value) (x:ByteArray) (j:Nat) (v:Value) (W:World):Prop:=match j with
 | 1=>v=v0
 | 2=>∃ g:Nat,v= .slice (some ⟨g,0,none⟩) 4 4∧AtE kD W W.heap.size (some ⟨g,0,none⟩) [⟨#[97,48]⟩,⟨#[97,49]⟩,⟨#[97,50]⟩,⟨#[97,51]⟩]
 | 4=>∃ ad:Addr,v= .pointer (some ad)∧W.cell? ad=some (.string (uN k))
 | 5=>v= .string (uN k)
 | 12=>v=prV (vO k x)
 | 13=>∃ g:Nat,v= .slice (some ⟨g,0,none⟩) 1 1∧AtE EP W W.heap.size (some ⟨g,0,none⟩) [vO k x]
 | _=>True
theorem mD.at1 {k:Nat} {v0:Value} {x:ByteArray} {v:Value} {W:World} (h:mD k v0 x 1 v W):v=v0:=h
theorem mD.at2 {k:Nat} {v0:Value} {x:ByteArray} {v:Value} {W:World} (h:mD k v0 x 2 v W):∃ g:Nat,v= .slice (some ⟨g,0,none⟩) 4 4∧AtE kD W W.heap.size (some ⟨g,0,none⟩) [⟨#[97,48]⟩,⟨#[97,49]⟩,⟨#[97,50]⟩,⟨#[97,51]⟩]:=h
theorem mD.at4 {k:Nat} {v0:Value} {x:ByteArray} {v:Value} {W:World} (h:mD k v0 x 4 v W):∃ ad:Addr,v= .pointer (some ad)∧W.cell? ad=some (.string (uN k)):=h
theorem mD.at5 {k:Nat} {v0:Value} {x:ByteArray} {v:Value} {W:World} (h:mD k v0 x 5 v W):v= .string (uN k):=h
theorem mD.TM {k:Nat} {v0:Value} {x:ByteArray} {v:Value} {W:World} (h:mD k v0 x 12 v W):v=prV (vO k x):=h
theorem mD.TP {k:Nat} {v0:Value} {x:ByteArray} {v:Value} {W:World} (h:mD k v0 x 13 v W):∃ g:Nat,v= .slice (some ⟨g,0,none⟩) 1 1∧AtE EP W W.heap.size (some ⟨g,0,none⟩) [vO k x]:=h
theorem mD.below {k:Nat} {v0:Value} {x:ByteArray} {A B:World} (hb:Below A.heap.size A B) (j:Nat) (y:Value) (h:mD k v0 x j y A):mD k v0 x j y B:=by
 unfold mD at h ⊢;split at h <;> first | exact h | (obtain ⟨g,h1,h2⟩:=h;exact ⟨g,h1,h2.below hb⟩) | (obtain ⟨g,h1,h2⟩:=h;exact ⟨g,h1,(hb.cell (block_lt_of_cell h2)).trans h2⟩)
structure XeS (m:Mk) (w W:World):Prop where
 c:Blk W w.heap.size 54 m.X
 r:Blk W (w.heap.size+1) 77 zrC
 b:Below w.heap.size w W
theorem XeS.below {m:Mk} {w W W' :World} (h:XeS m w W) (hb:Below W.heap.size W W'):XeS m w W' :=⟨Blk.below h.c hb,Blk.below h.r hb,aa h.b hb⟩
theorem XeS.far {m:Mk} {w W W' :World} (h:XeS m w W) {v:Value} {L:List Pr} (ho:ax EP W w.heap.size v L) (hg:W.grownBy W' v.ownBlock):XeS m w W' :=
 ⟨Blk.grown h.c hg (ay ho h.c (by decide)),Blk.grown h.r hg (ay ho h.r (by decide)),h.b.grown hg h.b.size (fun k e=>ho.ge k e)⟩
theorem XeS.cell {m:Mk} {w W:World} (h:XeS m w W) {g:Nat} (hg:w.heap.size+1 < g) (i:Nat) (u:Value):XeS m w (W.setCell ⟨g,i,none⟩ u):=
 ⟨Blk.af h.c _ (by show w.heap.size≠g;omega),Blk.af h.r _ (by show w.heap.size+1≠g;omega),h.b.setCell (p:=⟨g,i,none⟩) (by show w.heap.size≤g;omega) u⟩
abbrev xeC (m:Mk) (v:Value):Array Value:=#[.int .i64 1309, .int .i64 m.ti, .int .i64 0,v]
structure XeJ (m:Mk) (g:Nat) (args:List ByteArray) (w:World) (k:Nat) (v:Value) (W:World):Prop where
 l:Blk W g 77 (xeC m v)
 o:ax EP W w.heap.size v (lW args k)
theorem XeJ.below {m:Mk} {g:Nat} {args:List ByteArray} {w:World} {k:Nat} {v:Value} {W W' :World} (h:XeJ m g args w k v W) (hb:Below W.heap.size W W'):XeJ m g args w k v W' :=⟨Blk.below h.l hb,h.o.below hb⟩
theorem aR.gs {w:World} {g:Nat} {c:Ctx} {r:aN} {it:Value} (h:aR w g c r it):w.cell? ⟨g,21,none⟩=some r.gs.v:=h.cell 21
theorem LU (m:Mk) (v:Value):(Tryz.prog.info? 77).map (·.size)=some (xeC m v).size:=by show _=some 4;kernel_rfl
theorem Gb (m:Mk) (A:Option Addr) (n c:Nat):(xeC m (.slice A n c)).all (·.oneCell')=true:=by simp [Value.oneCell']
theorem Gc {w:World} {g:Nat} {r:Rc} {v:Value} (h:Blk w g 77 (rcC r v)):(loadVar 77 ⟨g,0,none⟩).run Tryz.prog w= .ok (.agg (rcC r v)) w:=run_loadVar_row w g _ _ _ _ _ h Tryz.underlying77 rfl (Kc _ _)
attribute [local irreducible] aV Mk.C txP uN lW
theorem LV (a:Addr) (w:World):(loadVar 75 a).run Tryz.prog w=(load a).run Tryz.prog w:=by
 unfold loadVar;simp [go_sem]
attribute [-go_sem] loadVar
attribute [local go_sem] lv3 DL DR uh IE BK LV
theorem LW (m:Mk) (args:List ByteArray) (hn:m.r.gs.n=args.length) (lS:args.length≤1000) (w:World) (hA:AtE kD w w.heap.size m.r.gs.A args):Calls Tryz.prog 53 #[.agg m.X, .int .i64 m.ti] w (F8 ⟨1309,m.ti,0,nT args⟩ w):=by
 have HA:=Hd hA;have HFW:=Hd lS;have HN:=Hd hn;have HEX:=Hd (BJ args);have S0:=Hd (show XeS m w ((w.alloc (.cells m.X 54)).alloc (.cells zrC 77)) from ⟨(Blk.new w m.X 54).alloc _,by have:=Blk.new (w.alloc (.cells m.X 54)) zrC 77;simpa using this,((Below.refl _ _).alloc (Nat.le_refl _) _).alloc (by simp) _⟩);clear hA hn lS;go_in;go_upto_region 1 with fail;generalize ((w.alloc (.cells m.X 54)).alloc (.cells zrC 77))=w0 at *;have c23:=aR.gs S0.o.c;generalize hq:m.r.gs=q at *;obtain ⟨qA,qn,qc⟩:=q;simp only at HN HA;have HQ:=Hd hq;clear hq;have c24:w0.cell? ⟨w.heap.size,21,none⟩=some (.slice qA qn qc):=c23;clear c23;go_wp2_with fail;clear c24;refine (jy ⟨#[97,114,103,99]⟩ (qn:Int) w0).mono ?_;rintro e w1 ⟨rfl,hb1⟩;have S1:=Hd (S0.o.below hb1);clear hb1 S0;have CS0:=Hd (ax.lits EP w1 #[.string ⟨#[97,114,103,99]⟩, .int .i64 1, .int .i64 (qn:Int), .string ⟨#[]⟩] (lW args 0) (by unfold lW nuP;rw [HN.o];rfl) (base:=w.heap.size) S1.o.b.size (by rw [nC args 0 (Nat.zero_le _)];omega) (n:=1) (nC args 0 (Nat.zero_le _)).symm);go_upto_region 2 with fail;have BA:=(Below.refl w1.heap.size w1).alloc (Nat.le_refl _) (.cells #[.string ⟨#[97,114,103,99]⟩, .int .i64 1, .int .i64 (qn:Int), .string ⟨#[]⟩] 79);have hsz:(w1.alloc (.cells #[.string ⟨#[97,114,103,99]⟩, .int .i64 1, .int .i64 (qn:Int), .string ⟨#[]⟩] 79)).heap.size=w1.heap.size+1:=by simp
 have BA2:=(Below.refl (w1.alloc (.cells #[.string ⟨#[97,114,103,99]⟩, .int .i64 1, .int .i64 (qn:Int), .string ⟨#[]⟩] 79)).heap.size (w1.alloc (.cells #[.string ⟨#[97,114,103,99]⟩, .int .i64 1, .int .i64 (qn:Int), .string ⟨#[]⟩] 79))).alloc (Nat.le_refl _) (.cells (xeC m (.slice (some ⟨w1.heap.size,0,none⟩) 1 1)) 77);have S2:=Hd ((S1.o.below BA).below BA2);have hb2:=Blk.new (w1.alloc (.cells #[.string ⟨#[97,114,103,99]⟩, .int .i64 1, .int .i64 (qn:Int), .string ⟨#[]⟩] 79)) (xeC m (.slice (some ⟨w1.heap.size,0,none⟩) 1 1)) 77;rw [hsz] at hb2;have J2:=Hd (show XeJ m (w1.heap.size+1) args w 0 (.slice (some ⟨w1.heap.size,0,none⟩) 1 1) ((w1.alloc (.cells #[.string ⟨#[97,114,103,99]⟩, .int .i64 1, .int .i64 (qn:Int), .string ⟨#[]⟩] 79)).alloc (.cells (xeC m (.slice (some ⟨w1.heap.size,0,none⟩) 1 1)) 77)) from ⟨hb2,(show ax EP (w1.alloc (.cells #[.string ⟨#[97,114,103,99]⟩, .int .i64 1, .int .i64 (qn:Int), .string ⟨#[]⟩] 79)) w.heap.size (.slice (some ⟨w1.heap.size,0,none⟩) 1 1) (lW args 0) from CS0.o).below BA2⟩);have HG2:=Hd (show w.heap.size+1 < w1.heap.size+1 by have:=S1.o.r.lt;omega);clear BA BA2 hsz hb2 S1 CS0;generalize (w1.alloc (.cells #[.string ⟨#[97,114,103,99]⟩, .int .i64 1, .int .i64 (qn:Int), .string ⟨#[]⟩] 79)).alloc (.cells (xeC m (.slice (some ⟨w1.heap.size,0,none⟩) 1 1)) 77)=w2 at *;generalize w1.heap.size+1=g2 at *
 skip
 go_wp2_with fail;go_loopw [6] (fun ix wr=>∃ (k:Nat) (A0:Option Addr) (n0 c0:Nat),k≤args.length∧k≤4∧ix= .int .i64 (k:Int)∧Hid (XeS m w wr)∧Hid (XeJ m g2 args w k (.slice A0 n0 c0) wr)) (fun ix _=>4 - (intOf ix).toNat);case atStart=>exact ⟨0,_,_,_,Nat.zero_le _,Nat.zero_le _,rfl,S2,J2⟩
 case round=>
  obtain ⟨k,A0,n0,c0,hk,hk4,rfl,HS,HJ⟩:=hrel;clear S2 J2;by_cases hlt:k < args.length;case pos=>
   by_cases hk5:k < 4;case pos=>
    have k0:(0:Int)≤(k:Int):=(by omega);have kn:(k:Int) < (qn:Int):=(by have:=HN.o;omega);have k4:(k:Int) < 4:=(by omega);have c24:wr.cell? ⟨w.heap.size,21,none⟩=some (.slice qA qn qc):=(by have:=aR.gs HS.o.c;rw [HQ.o] at this;exact this);obtain ⟨ad,rfl,hab,hcx⟩:=HA.o k hlt;have HS0:=Hd (show w.cell? (ad.add k)=some (.string args[k]) by have h:=fU (a:=ad.add (k * 1)) hcx;rwa [Nat.mul_one] at h);have HNX:=Hd (xB hlt);have HKL:=Hd (nC args k hk);clear hcx;generalize args[k]=x at *;have s0:=(HS.o.b.cell (p:=ad.add k) (by rw [aj];omega)).trans HS0.o;go_upto_region 5 with fail;refine wp_region_held_drew (S:=(fun W' =>(XeS m w W' ∧W'.cell? ⟨w.heap.size,21,none⟩=some (.slice (some ad) qn qc))∧W'.cell? (ad.add k)=some (.string x))) (by kernel_rfl) ⟨⟨HS.o.below (Below.refl _ _).drew,c24⟩,s0⟩ (fun hHeld=>?_);have JD:=Hd (HJ.o.below (Below.refl wr.heap.size wr).drew);clear s0 c24 HS HJ;generalize wr.drew=wd at *;refine tk hHeld 0 ?_ ?_ (tk hHeld 3 ?_ ?_ (tk hHeld 6 ?_ ?_ (tk hHeld 7 ?_ ?_ (tk hHeld 8 ?_ ?_ (tk hHeld 9 ?_ ?_ (tk hHeld 10 ?_ ?_ (tk hHeld 11 ?_ ?_ ?_)))))));iterate 8
      rotate_left
      · intro W hSw;have kk:=hSw.1.2;have CP:=hSw.2;go_simp;try (with_reducible rfl)
    refine gT [1,2,4,5,12,13] [(1,28),(2,29),(4,31),(5,32),(12,39),(13,40)] (XeJ m g2 args w k (.slice A0 n0 c0)) (mD k (.slice A0 n0 c0) x) (fun A B=>Below A.heap.size A B) 3 hHeld JD.o rfl (by kernel_rfl) (by kernel_rfl) (fun A B hb=>⟨fun h=>⟨⟨h.1.1.below hb,(hb.cell (block_lt_of_cell h.1.2)).trans h.1.2⟩,(hb.cell (block_lt_of_cell h.2)).trans h.2⟩,fun h=>h.below hb,fun j y h=>mD.below hb j y h⟩) ?steps ?fin;case steps=>
      refine bf.cons (i:=1) rfl (fun u W hSW hJW hpre K hK=>?_) ?_
      · dsimp only [bL,List.foldl];have kk:=hJW.l.cell 3;go_simp;exact hK.o (.slice A0 n0 c0) _ _ (by kernel_rfl) rfl (Below.refl _ _)
      refine bf.cons (i:=2) rfl (fun u W hSW hJW hpre K hK=>?_) ?_
      · dsimp only [bL,List.foldl];go_simp;go_at_call 103;refine (EN W).mono ?_;rintro e W2 ⟨g,rfl,hat,hb⟩;go_simp;exact hK.o (.slice (some ⟨g,0,none⟩) 4 4) _ _ (by kernel_rfl) ⟨g,rfl,hat⟩ hb
      refine bf.cons (i:=4) rfl (fun u W hSW hJW hpre K hK=>?_) ?_
      · dsimp only [bL,List.foldl];have hg:=mD.at2 (hpre 2 rfl (by kernel_rfl));cases hg;rename_i g hg;have e0:=hg.1;rw [← dQ e0] at hK;have HAT:=Hd hg.2;clear hg;go_simp;obtain ⟨ad1,e1,_,hc1⟩:=HAT.o k (by show k < 4;omega);injection e1 with e1;subst e1;rw [BL hk5] at hc1;have hc2:=fU (a:=(⟨g,0,none⟩:Addr).add (k * 1)) hc1;rw [Nat.mul_one,bV] at hc2;exact hK.o (.pointer (some ⟨g,k,none⟩)) _ _ (by kernel_rfl) ⟨_,rfl,hc2⟩ (Below.refl _ _)
      refine bf.cons (i:=5) rfl (fun u W hSW hJW hpre K hK=>?_) ?_
      · dsimp only [bL,List.foldl];have hg:=mD.at4 (hpre 4 rfl (by kernel_rfl));cases hg;rename_i ad1 hg;have e0:=hg.1;have h0:=hg.2;clear hg;rw [← dQ e0] at hK;go_simp;exact hK.o (.string (uN k)) _ _ (by kernel_rfl) rfl (Below.refl _ _)
      refine bf.cons (i:=12) rfl (fun u W hSW hJW hpre K hK=>?_) ?_
      · dsimp only [bL,List.foldl];have e0:=mD.at5 (hpre 5 rfl (by kernel_rfl));rw [← dQ e0] at hK;go_simp;go_at_call 54;refine (tq _ _ W).mono ?_;rintro e W2 ⟨rfl,hb⟩;go_simp;exact hK.o (prV (vO k x)) _ _ (by kernel_rfl) rfl hb
      refine bf.cons (i:=13) rfl (fun u W hSW hJW hpre K hK=>?_) ?_
      · dsimp only [bL,List.foldl];have e0:=mD.TM (hpre 12 rfl (by kernel_rfl));rw [← dQ e0] at hK;go_simp;exact hK.o (.slice (some ⟨W.heap.size,0,none⟩) 1 1) _ _ (by kernel_rfl) ⟨W.heap.size,rfl,aM EP W #[.string (vO k x).nm, .int .i64 (vO k x).kd, .int .i64 (vO k x).nu, .string (vO k x).tx] 79 (vO k x) rfl (by simp)⟩ ((Below.refl _ _).alloc (Nat.le_refl _) _)
      exact bf.nil
    case fin=>
    intro u W hHeld hJ hV;dsimp only [bL,List.foldl];have e1:=mD.at1 (hV 1 rfl);have hg:=mD.TP (hV 13 rfl);cases hg;rename_i g hg;have e13:=hg.1;have h13:=hg.2;clear hg;simp only [e1,e13];go_simp;have RW:=Hd h13;have J9:=Hd hJ;clear h13 e1 e13 hV hJ;refine rdy1 14 (fun K hK=>?_);refine aI EP (by rfl) (.tmp 28) (.tmp 40) (by rfl) w.heap.size (.slice A0 n0 c0) (lW args k) (by rfl) J9.o.o W.heap.size (some ⟨g,0,none⟩) 1 1 [vO k x] (by rfl) (by rfl) RW.o (by rw [HKL.o];simp;omega) hHeld.1.1.b.size ?_;intro v8 w8 ho8 hg8 Ea;have S8:=Hd (hHeld.1.1.far J9.o.o hg8);have cc8:w8.cell? ⟨w.heap.size,21,none⟩=some (.slice (some ad) qn qc):=(by have:=aR.gs S8.o.c;rw [HQ.o] at this;exact this);have hh:w8.cell? (ad.add k)=some (.string x):=(S8.o.b.cell (p:=ad.add k) (by rw [aj];omega)).trans HS0.o;have ho9:ax EP w8 w.heap.size v8 (lW args (k+1)):=(by rw [HNX.o];exact ho8);have L8:=Hd (Blk.grown J9.o.l hg8 (ay J9.o.o J9.o.l (by decide)));obtain ⟨A8,c8,e8,_⟩:=ho9.at;subst e8;generalize (lW args (k+1)).length=l8 at *;have O8:=Hd ho9;refine hK.o _ _ ⟨⟨S8.o,cc8⟩,hh⟩ (fun hHeld=>?_);clear hK K hh cc8 hg8 Ea ho8 ho9 J9;refine tk hHeld 15 ?_ ?_ ?_;rotate_left
    · intro W hSw;go_simp;try (with_reducible rfl)
    have c3:=L8.o.cell 3;have f3:=L8.o.free 3;have S9:=Hd (S8.o.cell (g:=g2) HG2.o 3 (.slice A8 l8 c8));have J9:=Hd (show XeJ m g2 args w (k+1) (.slice A8 l8 c8) (w8.setCell ⟨g2,3,none⟩ (.slice A8 l8 c8)) from ⟨L8.o.put 3 (.slice A8 l8 c8),O8.o.bD (ay O8.o L8.o (by decide)) _⟩);have cc9:(w8.setCell ⟨g2,3,none⟩ (.slice A8 l8 c8)).cell? ⟨w.heap.size,21,none⟩=some (.slice (some ad) qn qc):=(by have:=aR.gs S9.o.c;rw [HQ.o] at this;exact this);have hh:(w8.setCell ⟨g2,3,none⟩ (.slice A8 l8 c8)).cell? (ad.add k)=some (.string x):=(S9.o.b.cell (p:=ad.add k) (by rw [aj];omega)).trans HS0.o;refine rdy1 16 (fun K hK=>?_);go_simp;refine hK.o _ _ ⟨⟨S9.o,cc9⟩,hh⟩ (fun hHeld=>?_);clear hK K;clear hh cc9 c3 f3;refine wpAnyH_done (by kernel_rfl) ?_ _;go_simp;obtain ⟨q7,q8⟩:=bW (show k≤1000000 by omega) (Nat.le_refl _);go_wp2_with fail;clear q7 q8;go_roundw;case rel=>exact ⟨k+1,_,_,_,hlt,by omega,by go_num,S9,J9⟩
    case measure=>exact bq hk5 _ rfl
   case neg=>
    have k4:¬ (k:Int) < 4:=(by omega);have kn:(k:Int) < (qn:Int):=(by have:=HN.o;omega);have HMN:=Hd (show min args.length 4=k by omega);have R1:=HS.o.r;have l0:=HJ.o.l.cell 0;have l1:=HJ.o.l.cell 1;have l2:=HJ.o.l.cell 2;have l3:=HJ.o.l.cell 3;have c24:wr.cell? ⟨w.heap.size,21,none⟩=some (.slice qA qn qc):=(by have:=aR.gs HS.o.c;rw [HQ.o] at this;exact this);have hld:=Gc (r:=⟨1309,m.ti,0, []⟩) HJ.o.l;go_wp2_with ((with_reducible refine ae ?_ 77 (.tmp 4) (.tmp 43) ?_ R1 (xeC m (.slice A0 n0 c0)) ?_ ?_ ?_ ?_ ?_ ?_);(iterate 4 rfl);(exact LU _ _);rfl;(exact Gb _ _ _ _));refine bodyPost_ret (qP (n:=4) (fn:=Tryz.f53) rfl _ _ (w.heap.size+1) ⟨1309,m.ti,0,nT args⟩ (.slice A0 n0 c0) rfl (R1.row _)) rfl ?_;obtain ⟨A9,c9,e9,_⟩:=HJ.o.o.at;injection e9 with e1 e2 e3;subst e1 e2 e3;rw [HEX.o,HMN.o];exact ⟨A0,c0,rfl,HJ.o.o.mE (ay HJ.o.o R1 (by decide)) _,ak HS.o.b (by omega) _⟩
  case neg=>
   have kn:¬ (k:Int) < (qn:Int):=(by have:=HN.o;omega);have HMN:=Hd (show min args.length 4=k by omega);have R1:=HS.o.r;have l0:=HJ.o.l.cell 0;have l1:=HJ.o.l.cell 1;have l2:=HJ.o.l.cell 2;have l3:=HJ.o.l.cell 3;have c24:wr.cell? ⟨w.heap.size,21,none⟩=some (.slice qA qn qc):=(by have:=aR.gs HS.o.c;rw [HQ.o] at this;exact this);have hld:=Gc (r:=⟨1309,m.ti,0, []⟩) HJ.o.l;go_wp2_with ((with_reducible refine ae ?_ 77 (.tmp 4) (.tmp 43) ?_ R1 (xeC m (.slice A0 n0 c0)) ?_ ?_ ?_ ?_ ?_ ?_);(iterate 4 rfl);(exact LU _ _);rfl;(exact Gb _ _ _ _));refine bodyPost_ret (qP (n:=4) (fn:=Tryz.f53) rfl _ _ (w.heap.size+1) ⟨1309,m.ti,0,nT args⟩ (.slice A0 n0 c0) rfl (R1.row _)) rfl ?_;obtain ⟨A9,c9,e9,_⟩:=HJ.o.o.at;injection e9 with e1 e2 e3;subst e1 e2 e3;rw [HEX.o,HMN.o];exact ⟨A0,c0,rfl,HJ.o.o.mE (ay HJ.o.o R1 (by decide)) _,ak HS.o.b (by omega) _⟩
end Go.Proofs.YtollifnnpihfdaaGreatDoor
namespace Go.Proofs.YtollifnnpihfdaaGreatDoor
open Go.RowKit
theorem uL (ds:List Dm) (A:Option Addr) (n c:Nat) (hn:n=ds.length) (ms:List Mt) (Am:Option Addr) (nm cm:Nat) (hnm:nm=ms.length) (hl:nm≤1000) {dev ino:Int}
  (hno:(dz (ds.map Dm.dv) dev ino && iH ms dev)=false) (w:World) (hf:bR w w.heap.size A ds) (hm:AtE EMt w w.heap.size Am ms):
  Calls Tryz.prog 49 #[.agg #[slV A n c,slV Am nm cm],flV dev ino] w (WhP ⟨#[]⟩ false w):=by
 obtain ⟨H,hH⟩:∃ H,w.heap.size=H:=⟨_,rfl⟩;obtain ⟨w0,hw0⟩:∃ w0,w0=(((w.alloc (.cells #[slV A n c,slV Am nm cm] 31)).alloc (.cells #[.int .i64 dev, .int .i64 ino] 44)).alloc (.cells #[.string ⟨#[]⟩] 9)).alloc (.cells #[.bool false] 4):=⟨_,rfl⟩;have B0:Below H w w0:=by rw [hw0, ← hH];exact ((((Below.refl _ _).alloc (Nat.le_refl _) _).alloc (by simp) _).alloc (by simp;omega) _).alloc (by simp;omega) _
 have hs0:w0.heap.size=H+4:=by rw [hw0, ← hH];simp
 have V0:Blk w0 H 31 #[slV A n c,slV Am nm cm]:=by rw [hw0, ← hH];exact (((Blk.new w _ _).alloc _).alloc _).alloc _
 have U0:Blk w0 (H+1) 44 #[.int .i64 dev, .int .i64 ino]:=by
  have:=Blk.new (w.alloc (.cells #[slV A n c,slV Am nm cm] 31)) #[.int .i64 dev, .int .i64 ino] 44;simp only [World.size_alloc,hH] at this;rw [hw0];exact (this.alloc _).alloc _
 have R1:Blk w0 (H+2) 9 #[.string ⟨#[]⟩]:=by
  have:=Blk.new ((w.alloc (.cells #[slV A n c,slV Am nm cm] 31)).alloc (.cells #[.int .i64 dev, .int .i64 ino] 44)) #[.string ⟨#[]⟩] 9;simp only [World.size_alloc,hH] at this;rw [hw0];exact this.alloc _
 have R2:Blk w0 (H+3) 4 #[.bool false]:=by
  have:=Blk.new (((w.alloc (.cells #[slV A n c,slV Am nm cm] 31)).alloc (.cells #[.int .i64 dev, .int .i64 ino] 44)).alloc (.cells #[.string ⟨#[]⟩] 9)) #[.bool false] 4;simp only [World.size_alloc,hH] at this;rw [hw0];exact this
 have F0:=hf.keep B0 (by omega);have M0:=hm.keep B0 (by omega);have HN:=Hd hn;have HNM:=Hd hnm;have HNO:=Hd hno;clear hn hnm hno;refine (callsIn_wide (n:=20)).1 ?_;refine callsIn_of_wp_marks Tryz.func49 rfl trivial ?_ rfl;simp only [Tryz.ntmps49,List.size_toArray,List.length_cons,List.length_nil,Nat.reduceAdd,Nat.reduceSub,Array.replicate_succ,Array.replicate_zero,List.push_toArray,List.append_toArray,List.nil_append,List.cons_append]
 gi_wp2_with fail
 rw [← hw0];clear hw0;refine ⟨trivial,(callsIn_wide.2 (Gh dev ino ds A n c HN.o (slV Am nm cm) w0 (F0.more (by omega)))).mono ?_⟩;rintro en w1 ⟨rfl,hb1⟩;have V1:=V0.below hb1;have U1:=U0.below hb1;have R11:=R1.below hb1;have R21:=R2.below hb1;have F1:=F0.keep hb1 (by omega);have M1:=M0.keep hb1 (by omega);have B1:Below H w w1:=B0.trans (hb1.mono (by omega));have hs1:H+4≤w1.heap.size:=by have:=hb1.size;omega
 clear hb1 V0 U0 R1 R2 F0 M0 B0 hs0 w0;have u0:=U1.cell 0;have v0:=V1.cell 0;have v1:=V1.cell 1;cases hd:dz (ds.map Dm.dv) dev ino with
 | false=>
  have r0:=R11.cell 0;have g0:=R11.free 0;have r2:=R21.cell 0;have g2:=R21.free 0
  gi_wp2_with fail
  refine ⟨trivial,?_⟩
  gi_wp2_with fail
  have q1:Blk ((w1.setCell ⟨H+1+1,0,none⟩ (.string ⟨#[]⟩)).setCell ⟨H+1+1+1,0,none⟩ (.bool false)) (H+1+1) 9 #[.string ⟨#[]⟩]:=(R11.put 0 _).af _ (by show H+1+1≠H+1+1+1;omega);have q2:Blk ((w1.setCell ⟨H+1+1,0,none⟩ (.string ⟨#[]⟩)).setCell ⟨H+1+1+1,0,none⟩ (.bool false)) (H+1+1+1) 4 #[.bool false]:=(R21.af (p:=⟨H+1+1,0,none⟩) _ (by show H+3≠H+1+1;omega)).put 0 _;have d1:=q1.cell 0;have d2:=q2.cell 0;refine ⟨.tuple #[.string ⟨#[]⟩, .bool false],by simp [results,Tryz.results49,go_sem,d1,d2],rfl,?_⟩;rw [hH];exact (B1.setCell (p:=⟨H+1+1,0,none⟩) (by show H≤H+1+1;omega) _).setCell (p:=⟨H+1+1+1,0,none⟩) (by show H≤H+1+1+1;omega) _
 | true=>
  have hmt:iH ms dev=false:=by have h:=HNO.o;rw [hd,Bool.true_and] at h;exact h
  gi_wp2_with fail
  clear u0 v0 v1;refine ⟨trivial,(callsIn_wide.2 (MI dev (slV A n c) ms Am nm cm HNM.o hl w1 (M1.more (by omega)))).mono ?_⟩;rw [hmt];rintro en w2 ⟨rfl,hb1⟩;have R12:=R11.below hb1;have R22:=R21.below hb1;have B2:Below H w w2:=B1.trans (hb1.mono (by omega));clear hb1 V1 U1 R11 R21 F1 M1 B1;have r0:=R12.cell 0;have g0:=R12.free 0;have r2:=R22.cell 0;have g2:=R22.free 0
  gi_wp2_with fail
  have q1:Blk ((w2.setCell ⟨H+1+1,0,none⟩ (.string ⟨#[]⟩)).setCell ⟨H+1+1+1,0,none⟩ (.bool false)) (H+1+1) 9 #[.string ⟨#[]⟩]:=(R12.put 0 _).af _ (by show H+1+1≠H+1+1+1;omega);have q2:Blk ((w2.setCell ⟨H+1+1,0,none⟩ (.string ⟨#[]⟩)).setCell ⟨H+1+1+1,0,none⟩ (.bool false)) (H+1+1+1) 4 #[.bool false]:=(R22.af (p:=⟨H+1+1,0,none⟩) _ (by show H+3≠H+1+1;omega)).put 0 _;have d1:=q1.cell 0;have d2:=q2.cell 0;refine ⟨.tuple #[.string ⟨#[]⟩, .bool false],by simp [results,Tryz.results49,go_sem,d1,d2],rfl,?_⟩;rw [hH];exact (B2.setCell (p:=⟨H+1+1,0,none⟩) (by show H≤H+1+1;omega) _).setCell (p:=⟨H+1+1+1,0,none⟩) (by show H≤H+1+1+1;omega) _
theorem Ff {f:List Dv} (h:FOk f):CK f≤1000:=by
 have:∀ l:List Dv,(∀ d∈l,d.ns.length≤16)→(l.map (fun d=>d.ns.length)).sum≤16 * l.length:=by
  intro l;induction l with
  | nil=>intro _;simp
  | cons a l ih=>
   intro hl;have h1:=ih (fun d hd=>hl d (List.mem_cons_of_mem _ hd));have h2:=hl a (List.mem_cons_self ..);simp only [List.map_cons,List.sum_cons,List.length_cons];omega
 have h1:=this f (fun d hd=>(h.2.2 d hd).few);have h2:=h.2.1;unfold CK;omega
theorem yE (ds:List Dm) (A:Option Addr) (n c:Nat) (hn:n=ds.length) (ms:List Mt) (Am:Option Addr) (nm cm:Nat) (hnm:nm=ms.length) (hl:nm≤1000) (hok:SOk (ds.map Dm.dv) ms) (dev ino:Int):
   ∃ (s:ByteArray) (b:Bool),s.size≤586∧∀ w:World,bR w w.heap.size A ds→AtE EMt w w.heap.size Am ms→
    Calls Tryz.prog 49 #[.agg #[slV A n c,slV Am nm cm],flV dev ino] w (WhP s b w)∧Calls Tryz.prog 28 #[.agg #[slV A n c,slV Am nm cm],flV dev ino] w (WhP s b w):=by
 by_cases h:(dz (ds.map Dm.dv) dev ino && iH ms dev)=true
 · have h0:=Bool.and_eq_true .. ▸ h;obtain ⟨L,k,h1,h2,h3⟩:=hok.KD h0.2 h0.1;exact ⟨jO L,true,kW (h1.names hok.1) h2,fun w hf hm=>⟨Cv ds A n c hn ms Am nm cm hnm hl hok.1 h1 h3 (Nat.le_trans h3 (Ff hok.1)) h0.1 h0.2 w hf hm,tQ ds A n c hn ms Am nm cm hnm hl hok.1 hok.2.zero h1 h2 w hf hm⟩⟩
 · have h0:(dz (ds.map Dm.dv) dev ino && iH ms dev)=false:=(by simpa using h);exact ⟨⟨#[]⟩,false,by decide,fun w hf hm=>⟨uL ds A n c hn ms Am nm cm hnm hl h0 w hf hm,tO dev ino ds A n c hn ms Am nm cm hnm hl w hf hm h0⟩⟩
theorem Qr:Cb:=fun d i p hp fw ds A n c hn ms Am nm cm hnm hl hok w hf hm=>Ql d i p hp fw ds A n c hn ms Am nm cm hnm hl hok w hf hm
abbrev cxL:Array Value:=#[.int .i64 2, .int .i64 0, .int .i64 0, .int .i64 0, .int .i64 0, .int .i64 0, .int .i64 0, .int .i64 0, .int .i64 0, .int .i64 0, .int .i64 0, .string ⟨#[]⟩, .string ⟨#[]⟩, .slice none 0 0, .bool false, .int .i64 3, .int .i64 0, .int .i64 0, .int .i64 0, .int .i64 0, .slice none 0 0, .slice none 0 0, .int .i64 0, .slice none 0 0, .int .i64 0]
theorem Gi:(Tryz.prog.info? 54).map (·.size)=some cxL.size:=by show _=some 25;kernel_rfl
def Cy (w:World) (e:Ending) (w' :World):Prop:=∃ (A:Option Addr) (c:Nat) (x y:Rm),e= .returned (.slice A 2 c)∧AtE ER w' w'.heap.size A [x,y]∧x.r.ty=1300∧x.r.ti=5∧x.r.ps.length=19∧y.r.ty=1320∧Below w.heap.size w w'
def mkL:Mk:=⟨none,0,0, .slice none 0 0,⟨2,fun _=>0,fun _=>0,0,0,⟨#[]⟩,⟨#[]⟩⟩,⟨0,0,⟨none,0,0⟩,false,3,⟨none,0,0⟩,⟨none,0,0⟩⟩,none,0,0,5, [], []⟩
theorem Qs:mkL.X=cxL:=rfl
theorem MN (key:ByteArray):evR mkL key [] ⟨#[]⟩= [⟨1300,5,0,nS mkL key⟩,⟨1320,5,0, []⟩]:=by
 have h1:dO mkL [] (FU mkL key [] ⟨#[]⟩)= [⟨1300,5,0,nS mkL key⟩]:=by
  have h2:FU mkL key [] ⟨#[]⟩= [(1300,nS mkL key)]:=rfl;rw [h2];show kX mkL [] 1300 (nS mkL key)=_;unfold kX;rw [if_neg (by decide)];rfl
 unfold evR;simp only [h1];rfl
theorem Fg (W:World) (B:Nat):bR W B none []:=⟨AtE.nil,Nat.zero_le _,fun d h=>(List.not_mem_nil h).elim,fun d h=>(List.not_mem_nil h).elim⟩
theorem Jh (w:World) (hc:Calls10 w):Calls Tryz.prog 17 #[.agg #[.slice none 0 0, .slice none 0 0], .agg #[.slice none 0 0, .slice none 0 0], .agg cxL, .agg #[.bool true, .int .i64 0, .string ⟨#[107]⟩], .int .i64 5] w (Cy w):=by
 have hv:=RB mkL ⟨rfl,rfl,Nat.zero_le _⟩ ⟨#[107]⟩ true 0 [] rfl (Nat.zero_le _) none 0 0 none 0 0 ⟨#[]⟩ w ⟨AtE.nil,Nat.zero_le _,fun x h=>by cases h⟩ aU.nil AtE.nil hc (fun W hW=>by
  refine (uL [] none 0 0 rfl [] none 0 0 rfl (Nat.zero_le _) (dev:=0) (ino:=0) rfl W (Fg W _) AtE.nil).mono ?_;rintro e w' ⟨h1,h2⟩;exact ⟨⟨false,h1⟩,h2⟩)
 rw [Qs] at hv;refine hv.mono ?_;rintro e w' ⟨A,n,c,he,hn,⟨xs,hx,ho,hp⟩,hb⟩;rw [MN] at hn hx;obtain ⟨x,ys,rfl,hx1,h2⟩:=List.map_eq_cons_iff.1 hx;obtain ⟨y,zs,rfl,hy,h3⟩:=List.map_eq_cons_iff.1 h2;obtain rfl:=List.map_eq_nil_iff.1 h3;have hx:x.r=⟨1300,5,0,nS mkL ⟨#[107]⟩⟩:=hx1;have hy:y.r=⟨1320,5,0, []⟩:=hy;obtain ⟨A',c',e',ha⟩:=ho.at;refine ⟨A,c,x,y,by rw [he,hn];rfl,?_,by rw [hx],by rw [hx],by rw [hx];rfl,by rw [hy],hb⟩;injection e' with e' _ _;rw [e'];exact ha
abbrev zxL:Array Value:=#[.int .i64 0, .int .i64 0, .int .i64 0, .int .i64 0, .int .i64 0, .int .i64 0, .int .i64 0, .int .i64 0, .int .i64 0, .int .i64 0, .int .i64 0, .string ⟨#[]⟩, .string ⟨#[]⟩, .slice none 0 0, .bool false, .int .i64 0, .int .i64 0, .int .i64 0, .int .i64 0, .int .i64 0, .slice none 0 0, .slice none 0 0, .int .i64 0, .slice none 0 0, .int .i64 0]
abbrev awW (w:World):World:=(w.alloc (.cells zxL 54)).setRow w.heap.size cxL
abbrev c47:Array Value:=#[.int .i64 3, .int .i64 0, .int .i64 0, .int .i64 0, .int .i64 0, .slice none 0 0, .slice none 0 0, .int .i64 0, .slice none 0 0, .int .i64 0]
theorem Ji (w:World) (hc:Calls10 w):Calls Tryz.prog 19 #[] w fun e w' =>e= .returned (.bool true)∧Below w.heap.size w w' :=by
 have hb0:Below w.heap.size w (awW w):=ak ((Below.refl _ _).alloc (Nat.le_refl _) _) (Nat.le_refl _) _;have X1:=Hd (show Blk (awW w) w.heap.size 54 cxL from (Blk.new w zxL 54).row cxL);have HE:=Hd (Jh (awW w) (hc.below hb0 (Nat.le_refl _)));have HB0:=Hd hb0;clear hb0 hc;go_in;go_wp2_with (first
  | (refine wpList_buildTo rfl 51 _ rfl (some 3) rfl c47 (by as_aux_lemma=>kernel_rfl) ?_)
  | (refine wpList_buildTo rfl 54 _ rfl (some 4) rfl cxL (by as_aux_lemma=>kernel_rfl) ?_)
  | (refine Great.wpList_allocTo rfl (some 1) rfl (.pointer (some ⟨w.heap.size,0,none⟩)) (.cells zxL 54) (by as_aux_lemma=>kernel_rfl) ?_)
  | (refine wpList_store_rowTo rfl 54 _ _ rfl rfl w.heap.size cxL rfl rfl 54 zxL (heap_alloc_new w _) Gi rfl (by as_aux_lemma=>kernel_rfl) ?_)
  | ((with_reducible refine aP ?_ 54 (.tmp 1) ?_ X1.o ?_ _ Tryz.underlying54 ?_ ?_ ?_);(iterate 4 rfl);exact Gi))
 refine HE.o.mono ?_;rintro e w1 ⟨A,c,x,y,rfl,hA,t1,t2,t3,t4,hb1⟩;obtain ⟨ad,rfl,_,h0⟩:=hA 0 (by simp);obtain ⟨ad',e',_,h1⟩:=hA 1 (by simp);injection e' with e';subst e';obtain ⟨q0,q1,_,q3⟩:=DK (a:=ad) (x:=x) h0;have h4:w1.cell? ⟨ad.block,ad.off+4,none⟩=some (.int .i64 y.r.ty):=h1 0 (by show 0 < 4;omega);rw [t1] at q0;rw [t2] at q1;rw [t3] at q3;rw [t4] at h4;have HB1:=Hd (aa HB0.o hb1);clear t1 t2 t3 t4 hb1 h0 h1 hA X1 HE;go_wp2_with fail;go_ret;exact ⟨rfl,HB1.o⟩
end Go.Proofs.YtollifnnpihfdaaGreatDoor
