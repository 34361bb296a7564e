import Derived.Test.YtollifnnpihfdaaGreatDoorX14
import Derived.Test.YtollifnnpihfdaaGreatDoorX13
set_option maxRecDepth 100000
set_option maxHeartbeats 64000000
set_option linter.all false
namespace Go.Proofs.YtollifnnpihfdaaGreatDoor
open Go.RowKit
def mQ (R:List Dv→Prop) (w:World) (e:Ending) (w' :World):Prop:=
 Below w.heap.size w w' ∧((∃ k:Int,k≠0∧e= .returned (.tuple #[.agg #[.slice none 0 0], .int .i64 k]))∨
  (∃ (A:Option Addr) (n c:Nat) (ds:List Dm),n=ds.length∧e= .returned (.tuple #[fsV A n c, .int .i64 0])∧aC w' w.heap.size (.slice A n c) ds∧R (ds.map Dm.dv)))
theorem OpF.Lm {w wr:World} {A:Option Addr} {n c r:Nat} {ds:List Dm} {dev ino:Int} (h:OpF w wr A n c ds dev ino r) (R:List Dv→Prop) {k:Int} (hk:k≠0):mQ R w (.returned (.tuple #[.agg #[.slice none 0 0], .int .i64 k])) (wr.setRow r #[.slice none 0 0]):=
 ⟨ai h.low (by have:=h.hr;omega) _, .inl ⟨k,hk,rfl⟩⟩
theorem mR {w:World} {g b o:Nat} {us:List Value} {t:TypeId} {cs:Array Value} (h:Blk w b t cs) (hne:b≠g):Blk (dB w g o us) b t cs:=h.grown (cZ us o (World.grownBy.refl w (some g))) (fun e=>hne (by injection e with e;exact e.symm))
theorem uL {w:World} {g o:Nat} {us:List Value} {p:Addr} {v:Value} (h:w.cell? p=some v) (hp:p.block < w.heap.size) (hne:p.block≠g):(dB w g o us).cell? p=some v:=
 (World.cell?_of_block ((cZ us o (World.grownBy.refl w (some g))).block p.block hp (fun e=>hne (by injection e)))).trans h
theorem EW (dev ino mode uid gid:Int) (ds:List Dm) (A:Option Addr) (n c:Nat) (hn:n=ds.length) (hok:FOk (ds.map Dm.dv)) (w:World) (h:bZ w w.heap.size A ds):
  Calls Tryz.prog 167 #[fsV A n c,flV dev ino, .int .i64 mode, .int .i64 uid, .int .i64 gid] w (mQ (fun f' =>xy (ds.map Dm.dv) dev ino mode uid gid f') w):=by
 have HN:=Hd hn;have HOK:=Hd hok;have S0:=Hd (Jh w A n c ds hn dev ino h);clear h hn hok;go_in;go_wp2_with fail;generalize ((w.alloc (.cells #[.slice A n c] 28)).alloc (.cells #[.int .i64 dev, .int .i64 ino] 44)).alloc (.cells #[.slice none 0 0] 28)=w0 at *;refine (bP dev ino ds A n c HN.o w0 S0.o.files).mono ?_;intro e w2 hp;cases hq:aD (ds.map Dm.dv) dev ino with
 | none=>
  rw [hq] at hp;obtain ⟨rfl,hb⟩:=hp;have S2:=Hd ((S0.o.grow hb).alloc (.cells ndZ 145));clear hb hq;go_wp2_with ((with_reducible refine ae ?_ 28 (.tmp 10) (.tmp 23) ?_ S2.o.R #[.slice none 0 0] ?_ ?_ ?_ ?_ ?_ ?_);(iterate 4 rfl);(exact bQ _);rfl;(exact bn _ _ _));refine bodyPost_ret (mP (fn:=Tryz.f167) rfl _ _ _ (.slice none 0 0) rfl (Blk.row S2.o.R _)) rfl ?_;exact S2.o.Lm _ (by decide)
 | some nd=>
  rw [hq] at hp;obtain ⟨A2,c2,rfl,ho,hb,hsz⟩:=hp;obtain ⟨ki,hki⟩:=fH hq;obtain ⟨j,hj,hkj,hdj,hxx⟩:=dQ hki;clear hxx;subst hdj;have HKI:=Hd hki;have HQ:=Hd hq;have HSZ:=Hd hsz;clear hki hq hsz;have S2:=Hd ((S0.o.grow hb).alloc (.cells (ndC nd (.slice A2 nd.es.length c2)) 145));have D2:=Hd (Blk.new w2 (ndC nd (.slice A2 nd.es.length c2)) 145);have HO2:=Hd (ho.alloc (.cells (ndC nd (.slice A2 nd.es.length c2)) 145));have HW2:=Hd (show ∀ q,(Value.slice A2 nd.es.length c2).ownBlock=some q→q < w2.heap.size from fun q e=>ho.lt q e);have HR0:=Hd (show w.heap.size+1+1 < w0.heap.size from S0.o.R.lt);have MM:=Hd (show w.heap.size+1+1 < w2.heap.size from Nat.lt_of_lt_of_le S0.o.R.lt hb.size);have HW0:=Hd (show w0.heap.size≤w2.heap.size from hb.size);clear ho hb S0;go_upto_region 4 with fail;generalize w2.alloc (.cells (ndC nd (.slice A2 nd.es.length c2)) 145)=w3 at *;obtain ⟨d0,d1,d2,d3,d4,d5,d6,d7⟩:=jI D2.o;have f2:=D2.o.free 2;have f3:=D2.o.free 3;have f4:=D2.o.free 4;have hr2:=S2.o.R.lt;have hrw:w.heap.size+1+1 < w2.heap.size:=MM.o;let w4:=((w3.setCell ⟨w2.heap.size,2,none⟩ (.int .i64 mode)).setCell ⟨w2.heap.size,3,none⟩ (.int .i64 uid)).setCell ⟨w2.heap.size,4,none⟩ (.int .i64 gid);have hb4:Below w2.heap.size w3 w4:=(((Below.refl w2.heap.size w3).setCell (p:=⟨w2.heap.size,2,none⟩) (Nat.le_refl _) _).setCell (p:=⟨w2.heap.size,3,none⟩) (Nat.le_refl _) _).setCell (p:=⟨w2.heap.size,4,none⟩) (Nat.le_refl _) _;have S4:=Hd (S2.o.keep hb4 hrw);have D4:=Hd (show Blk w4 w2.heap.size 145 (ndC (kT mode uid gid nd) (.slice A2 nd.es.length c2)) from ((D2.o.put 2 (.int .i64 mode)).put 3 (.int .i64 uid)).put 4 (.int .i64 gid));have HO4:=Hd (show ax EEn w4 w0.heap.size (.slice A2 nd.es.length c2) nd.es from ((HO2.o.bY (g:=w2.heap.size) (i:=2) (fun e=>by have:=HW2.o _ e;omega) _).bY (g:=w2.heap.size) (i:=3) (fun e=>by have:=HW2.o _ e;omega) _).bY (g:=w2.heap.size) (i:=4) (fun e=>by have:=HW2.o _ e;omega) _);clear hb4 hr2;go_upto_region 5 with fail;clear d0 d1 d2 d3 d4 d5 d6 d7 f2 f3 f4 D2 S2 HO2;obtain ⟨w5,hw5⟩:∃ w5,w5=w4:=⟨_,rfl⟩;have Lp:((w3.setCell ⟨w2.heap.size,2,none⟩ (.int .i64 mode)).setCell ⟨w2.heap.size,3,none⟩ (.int .i64 uid)).setCell ⟨w2.heap.size,4,none⟩ (.int .i64 gid)=w5:=hw5.symm;rw [Lp];rw [← hw5] at S4 D4 HO4;clear Lp hw5 w4;obtain ⟨d0,d1,d2,d3,d4,d5,d6,d7⟩:=jI D4.o;go_wp2_with fail;clear d0 d1 d2 d3 d4 d5 d6 d7;refine (tC (kT mode uid gid nd) (.slice A2 nd.es.length c2) (by have:=HSZ.o.2.1;unfold maxLen;show nd.tg.size≤_;omega) w5).mono ?_;rintro e w6 ⟨rfl,hb⟩;have S6:=Hd (S4.o.grow hb);have D6:=Hd (D4.o.below hb);have HO6:=Hd (HO4.o.below hb);clear hb S4 D4 HO4;cases hpl:lJ (kT mode uid gid nd) with
  | false=>
   clear hpl;go_wp2_with ((with_reducible refine ae ?_ 28 (.tmp 10) (.tmp 33) ?_ S6.o.R #[.slice none 0 0] ?_ ?_ ?_ ?_ ?_ ?_);(iterate 4 rfl);(exact bQ _);rfl;(exact bn _ _ _));refine bodyPost_ret (mP (fn:=Tryz.f167) rfl _ _ _ (.slice none 0 0) rfl (Blk.row S6.o.R _)) rfl ?_;exact S6.o.Lm _ (by decide)
  | true=>
   clear hpl;have v0:=S6.o.V.cell 0;have u0:=S6.o.U.cell 0;have u1:=S6.o.U.cell 1;go_wp2_with fail;clear v0 u0 u1;refine (jF ds A n c HN.o w6 S6.o.files).mono ?_;rintro e w8 ⟨v8,es,rfl,ho8,he8,hb⟩;obtain ⟨A8,c8,rfl,_⟩:=ho8.at;have HE:=Hd he8;have HEL:es.length=ds.length:=(by have:=congrArg List.length he8;simpa using this);have HLN:=Hd HEL;have hje:j < es.length:=(by rw [HEL];exact hj);have HKE:=Hd (show fe (es.map Dm.dv) (j:Int) ino=some ki by rw [HE.o];exact HKI.o);have hke:ki < es[j].xs.length:=by
     have h1:=HKE.o;unfold fe at h1;rw [dG (by omega) (by rw [Int.toNat_natCast];exact hje)] at h1;have h2:iQ (es[j].xs.map (·.nd)) ino=some ki:=h1;have h3:=(iE h2).1;simpa using h3
   have HND:=Hd (show es[j].xs[ki].nd=nd from by
     obtain ⟨j5,hj5,hk5,e5,e6⟩:=dQ (ds:=es) HKE.o;have e7:j=j5:=(by omega);subst e7;rw [HE.o,HQ.o] at e6;injection e6 with e6;exact e6.symm)
   obtain ⟨g8,BL,DZ,Js,BM⟩:=aX ho8.own (by omega);subst BL;clear BM HEL;have HB6:=Hd (show w6.heap.size≤w8.heap.size from hb.size);have S7:=Hd (S6.o.grow hb);have D7:=Hd (D6.o.below hb);have HO7:=Hd (HO6.o.below hb);have HR6:=Hd (show w.heap.size+1+1 < w6.heap.size from S6.o.R.lt);have HD6:=Hd (show w2.heap.size < w6.heap.size from D6.o.lt);have HQ6:=Hd (show ∀ q,(Value.slice A2 nd.es.length c2).ownBlock=some q→q < w6.heap.size from fun q e=>HO6.o.lt q e);clear hb he8 S6 D6 HO6;have S9:=Hd (S7.o.alloc (.cells #[(.slice (some ⟨g8,0,none⟩) es.length c8)] 28));have D9:=Hd (D7.o.alloc (.cells #[(.slice (some ⟨g8,0,none⟩) es.length c8)] 28));have O9:=Hd (Blk.new w8 #[(.slice (some ⟨g8,0,none⟩) es.length c8)] 28);have HO9:=Hd (HO7.o.below ((Below.refl w8.heap.size w8).alloc (Nat.le_refl _) (.cells #[(.slice (some ⟨g8,0,none⟩) es.length c8)] 28)));have HF9:=Hd (ho8.below ((Below.refl w8.heap.size w8).alloc (Nat.le_refl _) (.cells #[(.slice (some ⟨g8,0,none⟩) es.length c8)] 28)));clear ho8 S7 D7 HO7;go_upto_region 8 with fail;generalize w8.alloc (.cells #[(.slice (some ⟨g8,0,none⟩) es.length c8)] 28)=w9 at *;have j2:(0:Int)≤(j:Int):=(by omega);have j3:(j:Int) < (es.length:Int):=(by omega);have k2:(0:Int)≤(ki:Int):=(by omega);have k3:(ki:Int) < (es[j].xs.length:Int):=(by omega);obtain ⟨ad8,e0,EN,zS⟩:=aR HF9.o.own j hje;injection e0 with e0;subst e0;obtain ⟨s00,s1⟩:=bM (a:=(⟨g8,0,none⟩:Addr).add (j * 2)) zS;rw [bO] at s1;replace s1:w9.cell? ⟨g8,j * 2+1,none⟩=some (.slice es[j].A es[j].xs.length es[j].c):=s1;clear s00 zS EN;obtain ⟨gn,yg,hgn1,hgn2,Jz⟩:=aX (HF9.o.nodes _ (List.getElem_mem hje)).1 (by omega);clear Jz;have HGN:=Hd yg;rw [yg] at s1;have hgg:g8≠gn:=fun e=>aB HF9.o.own (HF9.o.nodes _ (List.getElem_mem hje)).1 (show (142:Nat)≠145 by decide) g8 rfl (by show (Value.slice es[j].A _ _).ownBlock=_;rw [yg,e];rfl);clear yg;obtain ⟨m,hm⟩:∃ m,m=es[j].xs.length:=⟨_,rfl⟩;have HM:=Hd hm;obtain ⟨cj,hcj⟩:∃ cj,cj=es[j].c:=⟨_,rfl⟩;rw [← hm, ← hcj] at s1;rw [← hm] at k3;clear hm hcj;have hr6:=HR6.o;have hd6:=HD6.o;have hb6:=HB6.o;have OD:w8.heap.size < w9.heap.size:=O9.o.lt;have HAT:=Hd HF9.o.sJ.1;have HRI:=Hd (show ∀ W:World,Below w9.heap.size w9 W→Calls Tryz.prog 117 #[fsV (some ⟨g8,0,none⟩) es.length c8,flV (j:Int) ino] W fun e w' =>e= .returned (.int .i64 (ki:Int))∧Below W.heap.size W w' from fun W hW=>by
     have:=kv (j:Int) ino es (some ⟨g8,0,none⟩) es.length c8 rfl W (HAT.o.below hW);rw [HKE.o] at this;exact this)
   have JA:g8 < w9.heap.size:=HF9.o.own.lt g8 rfl;refine wp_region_held_drew (S:=(fun W=>Blk W w8.heap.size 28 #[(.slice (some ⟨g8,0,none⟩) es.length c8)]∧Blk W (w.heap.size+1) 44 #[.int .i64 (j:Int), .int .i64 ino]∧Blk W w2.heap.size 145 (ndC (kT mode uid gid nd) (.slice A2 nd.es.length c2))∧W.cell? ⟨g8,j * 2+1,none⟩=some (.slice (some ⟨gn,0,none⟩) m cj))) (by kernel_rfl) ⟨O9.o,S9.o.U,D9.o,s1⟩ (fun hHeld=>?_);refine tk hHeld 0 ?_ ?_ (tk hHeld 1 ?_ ?_ (tk hHeld 2 ?_ ?_ (tk hHeld 3 ?_ ?_ (tk hHeld 4 ?_ ?_ (tk hHeld 5 ?_ ?_ (tk hHeld 6 ?_ ?_ (tk hHeld 7 ?_ ?_ (tk hHeld 8 ?_ ?_ ?_))))))));iterate 9
     rotate_left
     · intro W hSw;obtain ⟨z0,z1,z2,z3⟩:=hSw;have o0:=z0.cell 0;have u0:=z1.cell 0;have u1:=z1.cell 1;go_simp;try (with_reducible rfl)
   refine tk hHeld 10 ?_ ?_ ?_;rotate_left
   · intro W hSw;obtain ⟨z0,z1,z2,z3⟩:=hSw;obtain ⟨y0,y1,y2,y3,y4,y5,y6,y7⟩:=jI z2;go_simp;try (with_reducible rfl)
   refine rdy1 9 (fun K hK=>?_);go_simp;go_at_call 117;refine (HRI.o _ (Below.refl w9.heap.size w9).drew).mono ?_;rintro e wz ⟨rfl,hbz⟩;have hbz:Below w9.heap.size w9 wz:=aa (Below.refl w9.heap.size w9).drew hbz;have hh:Blk wz w8.heap.size 28 #[(.slice (some ⟨g8,0,none⟩) es.length c8)]∧Blk wz (w.heap.size+1) 44 #[.int .i64 (j:Int), .int .i64 ino]∧Blk wz w2.heap.size 145 (ndC (kT mode uid gid nd) (.slice A2 nd.es.length c2))∧wz.cell? ⟨g8,j * 2+1,none⟩=some (.slice (some ⟨gn,0,none⟩) m cj):=⟨O9.o.below hbz,S9.o.U.below hbz,D9.o.below hbz,(hbz.cell (p:=⟨g8,j * 2+1,none⟩) JA).trans s1⟩;have HFZ:=Hd (HF9.o.below hbz);have HOZ:=Hd (HO9.o.below hbz);have SZ:=Hd (S9.o.grow hbz);have hwz:w9.heap.size≤wz.heap.size:=hbz.size;clear hbz;go_simp;refine hK.o _ _ hh (fun hHeld=>?_);clear hK K;refine tk hHeld 11 ?_ ?_ ?_;rotate_left
   · intro W hSw;go_simp;try (with_reducible rfl)
   have hnz:=aR (HFZ.o.nodes _ (List.getElem_mem hje)).1 ki hke;obtain ⟨bd,hbd,hbb,hcy⟩:=hnz;rw [HGN.o] at hbd;injection hbd with hbd;subst hbd;obtain ⟨n0,n1,n2,n3,n4,n5,n6,n7⟩:=dh (a:=(⟨gn,0,none⟩:Addr).add (ki * 8)) hcy;rw [bO] at n0 n1 n2 n3 n4 n5 n6 n7;have hfr:∀ i,wz.frozen? ⟨gn,i,none⟩=false:=fun i=>by
     have h9:ax ENd wz w6.heap.size (.slice es[j].A es[j].xs.length es[j].c) es[j].xs:=(HFZ.o.nodes _ (List.getElem_mem hje)).1;rw [HGN.o] at h9;exact h9.free i
   have g0:=hfr (ki * 8);have g1:=hfr (ki * 8+1);have g2:=hfr (ki * 8+2);have g3:=hfr (ki * 8+3);have g4:=hfr (ki * 8+4);have g5:=hfr (ki * 8+5);have g6:=hfr (ki * 8+6);have g7:=hfr (ki * 8+7);clear hcy hfr hbb;have HFS:=Hd ((HFZ.o.low (b:=w0.heap.size) (by have:=HW0.o;omega)).JC hje hke HGN.o (x' :=(⟨kT mode uid gid nd,A2,c2⟩:Nm)) (by show iP (kT mode uid gid nd);exact HSZ.o) HOZ.o);have hh2:(fun W:World=>Blk W w8.heap.size 28 #[(.slice (some ⟨g8,0,none⟩) es.length c8)]∧Blk W (w.heap.size+1) 44 #[.int .i64 (j:Int), .int .i64 ino]∧Blk W w2.heap.size 145 (ndC (kT mode uid gid nd) (.slice A2 nd.es.length c2))∧W.cell? ⟨g8,j * 2+1,none⟩=some (.slice (some ⟨gn,0,none⟩) m cj)) (dB wz gn (ki * 8) (ENd.C (⟨kT mode uid gid nd,A2,c2⟩:Nm))):=⟨mR hh.1 (fun e=>az (HFZ.o.nodes _ (List.getElem_mem hje)).1 hh.1 (by decide) (by show (Value.slice es[j].A _ _).ownBlock=_;rw [HGN.o,e];rfl)),mR hh.2.1 (by omega),mR hh.2.2.1 (by omega),uL hh.2.2.2 (by show g8 < wz.heap.size;omega) hgg⟩;have SY:=Hd (show OpF w (dB wz gn (ki * 8) (ENd.C (⟨kT mode uid gid nd,A2,c2⟩:Nm))) A n c ds (j:Int) ino (w.heap.size+1+1) from SZ.o.keep (B:=w6.heap.size) ((Below.refl w6.heap.size wz).grown (cZ _ _ (World.grownBy.refl wz (some gn))) (by omega) (fun q e=>by injection e with e;omega)) hr6);refine rdy1 12 (fun K hK=>?_);go_simp;refine hK.o _ _ hh2 (fun hHeld=>?_);clear hK K;clear n0 n1 n2 n3 n4 n5 n6 n7 g0 g1 g2 g3 g4 g5 g6 g7;refine wpAnyH_done (by kernel_rfl) ?_ _;have OY:=Hd hh2.1;clear hh hh2;obtain ⟨wy,hwy⟩:∃ wy,wy=dB wz gn (ki * 8) (ENd.C (⟨kT mode uid gid nd,A2,c2⟩:Nm)):=⟨_,rfl⟩;have hwn:((((((((wz.setCell ⟨gn,ki * 8,none⟩ (.int .i64 (kT mode uid gid nd).ino)).setCell ⟨gn,ki * 8+1,none⟩ (.int .i64 (kT mode uid gid nd).kind)).setCell ⟨gn,ki * 8+2,none⟩ (.int .i64 (kT mode uid gid nd).mode)).setCell ⟨gn,ki * 8+3,none⟩ (.int .i64 (kT mode uid gid nd).uid)).setCell ⟨gn,ki * 8+4,none⟩ (.int .i64 (kT mode uid gid nd).gid)).setCell ⟨gn,ki * 8+5,none⟩ (.int .i64 (kT mode uid gid nd).par)).setCell ⟨gn,ki * 8+6,none⟩ (.string (kT mode uid gid nd).tg)).setCell ⟨gn,ki * 8+7,none⟩ (.slice A2 nd.es.length c2))=wy:=hwy.symm;rw [hwn];rw [← hwy] at OY SY HFS;clear hwn hwy;have o0:=OY.o.cell 0;go_wp2_with ((with_reducible refine ae ?_ 28 (.tmp 10) (.tmp 48) ?_ SY.o.R #[(.slice (some ⟨g8,0,none⟩) es.length c8)] ?_ ?_ ?_ ?_ ?_ ?_);(iterate 4 rfl);(exact bQ _);rfl;(exact bn _ _ _));refine bodyPost_ret (mP (fn:=Tryz.f167) rfl _ _ (w.heap.size+1+1) (.slice (some ⟨g8,0,none⟩) es.length c8) rfl (Blk.row SY.o.R _)) rfl ?_;have hof:=HFS.o.far (aA wy (w.heap.size+1+1) #[(.slice (some ⟨g8,0,none⟩) es.length c8)]) (fun q e=>by injection e with e;subst e;exact HFS.o.old (by have:=HR0.o;omega));exact ⟨ai SY.o.low (by omega) _, .inr ⟨_,_,_,_,hof.sJ.2,rfl,hof.low (by have:=HR0.o;omega),ki,HKI.o,by rw [pU es j ki hje hke (⟨kT mode uid gid nd,A2,c2⟩:Nm) (kT mode uid gid) (by rw [HND.o]),HE.o];rfl⟩⟩
def MP (w:World) (e:Ending) (w' :World):Prop:=(∃ b:Bool,e= .returned (.bool b))∧Below w.heap.size w w'
def Fu (u:Int) (w:World) (e:Ending) (w' :World):Prop:=e= .returned (.bool (decide (0≤u) && decide (u < 4294967295)))∧w=w'
theorem MQ (nd:Nd) (v:Value) (u g p:Int) (w:World):
  Calls Tryz.prog 248 #[.agg (ndC nd v), .int .i64 u, .int .i64 g, .int .i64 p] w (MP w):=by
 have B0:=Hd ((Below.refl w.heap.size w).alloc (Nat.le_refl _) (.cells (ndC nd v) 145));have N0:=Hd (Blk.new w (ndC nd v) 145);by_cases hp:p < 0;case pos=>
  go_in;go_wp2_with fail;go_ret;exact ⟨⟨_,rfl⟩,B0.o⟩
 case neg=>
  by_cases hp7:7 < p;case pos=>
   go_in;go_wp2_with fail;go_ret;exact ⟨⟨_,rfl⟩,B0.o⟩
  case neg=>
   cases hu:(u == 0) with
   | true=>
    go_in;go_upto_region 1 with fail;generalize w.alloc (.cells (ndC nd v) 145)=w0 at *;have n1:=N0.o.cell 1;have n2:=N0.o.cell 2;cases h1:(bits BinOp.and IntKind.i64 p 1 == 0) with
    | true=>
     go_wp2_with fail;go_ret;exact ⟨⟨_,rfl⟩,B0.o⟩
    | false=>
     cases h2:(nd.kind == 2) with
     | true=>
      go_wp2_with fail;go_ret;exact ⟨⟨_,rfl⟩,B0.o⟩
     | false=>
      go_wp2_with fail;go_ret;exact ⟨⟨_,rfl⟩,B0.o⟩
   | false=>
    cases hu2:(u == nd.uid) with
    | true=>
     go_in;go_upto_region 1 with fail;generalize w.alloc (.cells (ndC nd v) 145)=w0 at *;have n2:=N0.o.cell 2;have n3:=N0.o.cell 3;have n4:=N0.o.cell 4;go_wp2_with fail;go_ret;exact ⟨⟨_,rfl⟩,B0.o⟩
    | false=>
     cases hg:(g == nd.gid) with
     | true=>
      go_in;go_upto_region 1 with fail;generalize w.alloc (.cells (ndC nd v) 145)=w0 at *;have n2:=N0.o.cell 2;have n3:=N0.o.cell 3;have n4:=N0.o.cell 4;go_wp2_with fail;go_ret;exact ⟨⟨_,rfl⟩,B0.o⟩
     | false=>
      go_in;go_upto_region 1 with fail;generalize w.alloc (.cells (ndC nd v) 145)=w0 at *;have n2:=N0.o.cell 2;have n3:=N0.o.cell 3;have n4:=N0.o.cell 4;go_wp2_with fail;go_ret;exact ⟨⟨_,rfl⟩,B0.o⟩
theorem uS (u:Int) (w:World):
  Calls Tryz.prog 250 #[.int .i64 u] w (Fu u w):=by
 by_cases h:0≤u;case pos=>
  have HR:=Hd (show (decide (0≤u) && decide (u < 4294967295))=decide (u < 4294967295) by rw [decide_eq_true h,Bool.true_and]);go_in;go_wp2_with fail;go_ret;exact ⟨by rw [HR.o];rfl,rfl⟩
 case neg=>
  have HR:=Hd (show (decide (0≤u) && decide (u < 4294967295))=false by rw [decide_eq_false h,Bool.false_and]);go_in;go_wp2_with fail;go_ret;exact ⟨by rw [HR.o];rfl,rfl⟩
def ll (b:Bool) (x y z:Int):Int×Int×Int:=if b then (z,z,0) else if (z == x || z == y) then (x,z,0) else (0,0,1)
def MR (b:Bool) (x y z:Int) (w:World) (e:Ending) (w' :World):Prop:=e= .returned (.tuple #[.int .i64 (ll b x y z).1, .int .i64 (ll b x y z).2.1, .int .i64 (ll b x y z).2.2])∧w=w'
theorem j6 {fn:Func} {i j k:Nat} (h:fn.results=#[.tmp i, .tmp j, .tmp k]) (tmps:Array Value) (w:World):(results fn tmps).run Tryz.prog w= .ok (.tuple #[tmps.getD i undef,tmps.getD j undef,tmps.getD k undef]) w:=by
 simp [results,h]
theorem uT (b:Bool) (x y z:Int) (w:World):
  Calls Tryz.prog 251 #[.bool b, .int .i64 x, .int .i64 y, .int .i64 z] w (MR b x y z w):=by
 cases b with
 | true=>
  go_in;go_wp2_with fail;refine bodyPost_ret (j6 (fn:=Tryz.f251) rfl _ _) rfl ?_;exact ⟨rfl,rfl⟩
 | false=>
  cases h1:(z == x) with
  | true=>
   have HR:=Hd (show ll false x y z=(x,z,0) by unfold ll;rw [h1];rfl);go_in;go_wp2_with fail;refine bodyPost_ret (j6 (fn:=Tryz.f251) rfl _ _) rfl ?_;exact ⟨by rw [HR.o];rfl,rfl⟩
  | false=>
   cases h2:(z == y) with
   | true=>
    have HR:=Hd (show ll false x y z=(x,z,0) by unfold ll;rw [h1,h2];rfl);go_in;go_wp2_with fail;refine bodyPost_ret (j6 (fn:=Tryz.f251) rfl _ _) rfl ?_;exact ⟨by rw [HR.o];rfl,rfl⟩
   | false=>
    have HR:=Hd (show ll false x y z=(0,0,1) by unfold ll;rw [h1,h2];rfl);go_in;go_wp2_with fail;refine bodyPost_ret (j6 (fn:=Tryz.f251) rfl _ _) rfl ?_;exact ⟨by rw [HR.o];rfl,rfl⟩
abbrev kG:Array Value:=#[.string ⟨#[]⟩, .string ⟨#[]⟩, .int .i64 0, .int .i64 0, .string ⟨#[]⟩, .int .i64 0, .int .i64 0, .int .i64 0, .int .i64 0, .int .i64 0, .int .i64 0, .int .i64 0, .int .i64 0]
theorem yo (i:Itm) (r:bB):kG.size=(aO i r).size:=rfl
theorem kg (i:Itm) (r:bB):(aO i r).all (·.oneCell')=true:=by simp [aO,Value.oneCell']
section
variable {w wr w' :World} {base g gc:Nat} {b b' :Int} {i:Itm} {r:bB}
end
structure J0 (w wr:World) (base g:Nat) (b:Int):Prop where
 only:w.grownBy wr (some g)
 src:aW wr base g b
 rb:Blk wr w.heap.size 73 kG
 h3:g < w.heap.size
 h4:base≤w.heap.size
attribute [local irreducible] aO
end Go.Proofs.YtollifnnpihfdaaGreatDoor
