import Derived.Test.YtollifnnpihfdaaGreatDoorB33
set_option maxRecDepth 100000
set_option maxHeartbeats 64000000
set_option linter.all false
namespace Go.Proofs.YtollifnnpihfdaaGreatDoor
open Go.RowKit
def Po (ds:List Dm) (dev ino:Int) (w:World) (e:Ending) (w' :World):Prop:=
 ((aD (ds.map Dm.dv) dev ino=none∧e= .returned (.pointer none))∨
  ∃ (x:Nm) (ad:Addr),aD (ds.map Dm.dv) dev ino=some x.nd∧e= .returned (.pointer (some ad))∧ad.block < w.heap.size∧(∀ j,j < 8→w.cell? (ad.add j)=(ENd.C x)[j]?)∧AtE EEn w w.heap.size x.A x.nd.es∧jg x.nd)∧Below w.heap.size w w'
theorem IL (dev ino:Int) (ds:List Dm) (A:Option Addr) (n c:Nat) (hn:n=ds.length) (w:World) (h:bZ w w.heap.size A ds):
   Calls Tryz.prog 223 #[fsV A n c,flV dev ino] w (Po ds dev ino w):=by
 have HN:=Hd hn;have HB:=Hd (show Below w.heap.size w ((w.alloc (.cells #[.slice A n c] 28)).alloc (.cells #[.int .i64 dev, .int .i64 ino] 44)) from ((Below.refl w.heap.size w).alloc (Nat.le_refl _) _).alloc (by simp) _);have HF:=Hd (h.below HB.o);have HF0:=Hd h;clear h hn;by_cases h0:dev < 0
 · have HR:=Hd (show aD (ds.map Dm.dv) dev ino=none by unfold aD;rw [ji (.inl h0)];rfl);go_in;go_wp2_with fail;go_ret;exact ⟨.inl ⟨HR.o,rfl⟩,HB.o⟩
 have h0' :¬ dev < 0:=h0;by_cases h1:(n:Int)≤dev
 · have HR:=Hd (show aD (ds.map Dm.dv) dev ino=none by unfold aD;rw [ji (.inr (by rw [← HN.o];exact h1))];rfl);go_in;go_wp2_with fail;go_ret;exact ⟨.inl ⟨HR.o,rfl⟩,HB.o⟩
 obtain ⟨k,rfl⟩:∃ k:Nat,dev=k:=⟨dev.toNat,by omega⟩;have hk:k < ds.length:=by rw [← HN.o];omega
 have k1:(k:Int) < (n:Int):=by omega
 have k2:(0:Int)≤(k:Int):=by omega
 have HI:=Hd (show aD (ds.map Dm.dv) (k:Int) ino=(ds[k].xs.map (·.nd)).find? (fun n=>n.ino == ino) by
   unfold aD;rw [dJ (by omega) (by rw [Int.toNat_natCast];exact hk)];rfl)
 have HD:=Hd (HF.o.nodes ds[k] (List.getElem_mem hk));have HD0:=Hd (HF0.o.nodes ds[k] (List.getElem_mem hk));have HE0:=Hd (HF0.o.cu ds[k] (List.getElem_mem hk));obtain ⟨ad,rfl,hab,hcx⟩:=HF.o.at_ k hk;obtain ⟨s0,s1⟩:=bO (a:=ad.add (k * 2)) hcx;clear hcx h0 h1;generalize ds[k]=d at *;go_in;go_wp2_with fail;generalize hW:(w.alloc (.cells #[.slice (some ad) n c] 28)).alloc (.cells #[.int .i64 (k:Int), .int .i64 ino] 44)=W at *;have q1:W.cell? ⟨w.heap.size+1,1,none⟩=some (.int .i64 ino):=by
   rw [← hW];have:=(Blk.new (w.alloc (.cells #[.slice (some ad) n c] 28)) #[.int .i64 (k:Int), .int .i64 ino] 44).cell 1;simpa using this
 clear hW s0 s1;go_loopw [27] (fun i wr=>∃ j t:Nat,j≤d.xs.length∧i= .int .i64 j∧wr=W.drewN t∧∀ q (hq:q < j) (hl:q < d.xs.length),(d.xs[q].nd.ino == ino)=false) (fun i _=>d.xs.length - (intOf i).toNat);case atStart=>exact ⟨0,0,Nat.zero_le _,rfl,rfl,fun q hq=>by omega⟩
 case round=>
   obtain ⟨j,t,hj,rfl,rfl,hno⟩:=hrel;have HNO:=Hd hno;clear hno;by_cases hlt:j < d.xs.length
   · have j1:(j:Int) < (d.xs.length:Int):=(by omega);have j2:(0:Int)≤(j:Int):=(by omega);have j3:=HD.o.2;have w1:wrap64 ((j:Int)+1)=(j:Int)+1:=IntWalk.wrap64_in _ (by omega);have w2:IntKind.i64.wrap ((j:Int)+1)=(j:Int)+1:=IntWalk.i64_in _ (by omega);obtain ⟨bd,hbd,hbb,hcy⟩:=HD.o.1 j hlt;obtain ⟨bd',LA,nK,Nh⟩:=HD0.o.1 j hlt;obtain rfl:bd=bd' :=(by rw [hbd] at LA;injection LA);have HC:=Hd (show ∀ q,q < 8→w.cell? ((bd.add (j * 8)).add q)=(ENd.C d.xs[j])[q]? from Nh);have HE:=Hd (HE0.o d.xs[j] (List.getElem_mem hlt));obtain ⟨t0,t1⟩:=dh (a:=bd.add (j * 8)) hcy;have HX:=Hd (fun h:(d.xs[j].nd.ino == ino)=true=>show (d.xs.map (·.nd)).find? (fun n=>n.ino == ino)=some d.xs[j].nd by
      rw [List.find?_eq_some_iff_getElem];exact ⟨h,j,by simpa using hlt,by simp,fun q hq=>by have:=HNO.o q hq (by omega);simpa using this⟩)
     have HY:=Hd (fun h:(d.xs[j].nd.ino == ino)=false=>show ∀ q (hq:q < j+1) (hl:q < d.xs.length),(d.xs[q].nd.ino == ino)=false from fun q hq hl=>by
      by_cases he:q=j
      · subst he;exact h
      · exact HNO.o q (by omega) hl)
     clear hcy Nh LA t1 HNO;generalize d.xs[j]=x at *;rw [hbd];cases hb:(x.nd.ino == ino) with
     | true=>
      have HR:=Hd (HX.o hb);go_upto_region 7 with fail;go_quiet (fail);go_wp2_with fail;go_ret;exact ⟨.inr ⟨x,bd.add (j * 8),HI.o.trans HR.o,rfl,by rw [ak];exact nK,HC.o,HE.o.1,HE.o.2⟩,by first | exact below_drewN HB.o _ | exact below_drewN (below_drewN HB.o _) _⟩
     | false=>
      have HR:=Hd (HY.o hb);go_upto_region 7 with fail;go_quiet (fail);go_wp2_with fail;go_roundw;case rel=>exact ⟨j+1,_,by omega,by go_num,rfl,HR.o⟩
      case measure=>simp [intOf];omega
   · have j1:¬ (j:Int) < (d.xs.length:Int):=(by omega);have HR:=Hd (show (d.xs.map (·.nd)).find? (fun n=>n.ino == ino)=none by
      rw [List.find?_eq_none];intro y hy;obtain ⟨z,hz,rfl⟩:=List.mem_map.1 hy;obtain ⟨q,hq,rfl⟩:=List.getElem_of_mem hz;rw [HNO.o q (by omega) hq];decide)
     go_wp2_with fail;go_ret;exact ⟨.inl ⟨HI.o.trans HR.o,rfl⟩,below_drewN HB.o _⟩
theorem xX:1000 * 1000000≤281474976710656:=by decide
theorem lY {α:Type} (E:El α) {ops:Array Oper} {rest:List Oper} {o:Oper} {a:Act} {w:World} {Q:Exit→Act→World→Prop} (hgd:o.guard=none) (x:Operand) (ho:o.op= .makeSlice E.sl (.const (.int .i64 0)) x) (n:Nat) (hx:a.eval x= .int .i64 (n:Int)) (hn:n≤1000000) (base:Nat) (hbase:base≤w.heap.size)
  (h:∀ v' w',ax E w' base v' []→w.grownBy w' none→v' = .slice (some ⟨w.heap.size,0,none⟩) 0 n→wpList Tryz.prog ops Q rest (a.put o.dst v') w'):wpList Tryz.prog ops Q (o :: rest) a w:=by
 obtain ⟨i0,z,hi,hz,hs,hb,hzs⟩:=E.info;have hsm:i0.bytes * n≤281474976710656:=Nat.le_trans (Nat.mul_le_mul (by rw [hb];exact E.small) hn) xX;exact wpList_make_own w hgd (.const (.int .i64 0)) x E.sl ho base E.e i0 z E.sz E.hu hi hz hs .i64 .i64 (n:Int) n rfl hx rfl hsm (by unfold maxLen;omega) hbase (fun w' h1 h2=>h _ w' h1 h2 rfl)
abbrev enC (x:En):Array Value:=#[.string x.nm, .int .i64 x.ino]
theorem LB (x:En):(Tryz.prog.info? 209).map (·.size)=some (enC x).size:=by show _=some 2;kernel_rfl
def IM (v:Value) (w:World) (e:Ending) (w' :World):Prop:=e= .returned v∧Below w.heap.size w w'
theorem Es {fn:Func} (h:fn.results=#[.cell 2 209]) (tmps:Array Value) (w:World) (g:Nat) (x:En) (hp:tmps.getD 2 undef= .pointer (some ⟨g,0,none⟩)) (hg:Blk w g 209 (enC x)):
  (results fn tmps).run Tryz.prog w= .ok (.agg (enC x)) w:=
 results_cell_row h tmps w g _ (enC x) (0,0) _ hp hg Tryz.underlying209 rfl (LB x)
theorem Et {fn:Func} (h:fn.results=#[.cell 2 145]) (tmps:Array Value) (w:World) (g:Nat) (n:Nd) (v:Value) (hp:tmps.getD 2 undef= .pointer (some ⟨g,0,none⟩)) (hg:Blk w g 145 (ndC n v)):
  (results fn tmps).run Tryz.prog w= .ok (.agg (ndC n v)) w:=
 results_cell_row h tmps w g _ (ndC n v) (0,0) _ hp hg Tryz.underlying145 rfl (gY n v)
theorem IP (x:En) (w:World):Calls Tryz.prog 260 #[.agg (enC x)] w (IM (.agg (enC x)) w):=by
 go_in;go_wp2_with fail;refine bodyPost_ret (Es (fn:=Tryz.f260) rfl _ _ (w.heap.size+1) x rfl (by first | exact Blk.row (by have:=Blk.new (w.alloc (.cells (enC x) 209)) (enC ⟨⟨#[]⟩,0⟩) 209;simpa using this) _ | (have:=Blk.new (w.alloc (.cells (enC x) 209)) (enC x) 209;simpa using this))) rfl ?_;exact ⟨rfl,by first | exact ((Below.refl _ _).alloc (Nat.le_refl _) _).alloc (by simp) _ | exact ai (((Below.refl _ _).alloc (Nat.le_refl _) _).alloc (by simp) _) (by simp) _⟩
def Pp (L:List En) (w:World) (e:Ending) (w' :World):Prop:=∃ (A:Option Addr) (c:Nat),e= .returned (.slice A L.length c)∧ax EEn w' w.heap.size (.slice A L.length c) L∧Below w.heap.size w w'
theorem Eu (L:List En) (A:Option Addr) (n c:Nat) (hn:n=L.length) (hl:n≤1000) (w:World) (h:AtE EEn w w.heap.size A L):
   Calls Tryz.prog 259 #[.slice A n c, .func (.func 260) #[] #[]] w (Pp L w):=by
 have HN:=Hd hn;have HA:=Hd h;have HL:=Hd hl;clear h hn hl;go_in;by_cases h0:n=0
 · have b0:=(bI (show (n:Int)=0 by omega)).1;have hL:L= []:=List.eq_nil_of_length_eq_zero (by have:=HN.o;omega);go_wp2_with fail;go_ret;subst hL;exact ⟨none,0,rfl,ax.nil _ _,Below.refl _ _⟩
 · have b0:=(aM (show (n:Int)≠0 by omega)).1;go_wp2_with (at_make;refine lY EEn rfl (.tmp 12) rfl n rfl (by have:=HL.o;omega) w.heap.size (Nat.le_refl _) ?_);intro v1 w1 ho1 hg1 hv1;subst hv1;have B1:=Hd ((Below.refl w.heap.size w).grown hg1 (Nat.le_refl _) (fun k e=>by cases e));have O1:=Hd ho1;clear ho1 hg1;go_wp2_with fail;go_loopw [5,16] (fun v i wr=>∃ (k:Nat) (A0:Option Addr) (n0 c0:Nat),k≤n∧v= .slice A0 n0 c0∧i= .int .i64 (k:Int)∧Hid (ax EEn wr w.heap.size (.slice A0 n0 c0) (L.take k))∧Hid (Below w.heap.size w wr)) (fun _ i _=>n - (intOf i).toNat);case atStart=>exact ⟨0,_,_,_,Nat.zero_le _,rfl,rfl,O1,B1⟩
   case round=>
    clear O1 B1;obtain ⟨k,A0,n0,c0,hk,rfl,rfl,HO,HB⟩:=hrel;by_cases hlt:k < n;case pos=>
     have hkl:k < L.length:=(by have:=HN.o;omega);have k0:(0:Int)≤(k:Int):=(by omega);have kn:(k:Int) < (n:Int):=(by omega);obtain ⟨q7,q8⟩:=bq (show k≤1000000 by have:=HL.o;omega) (Nat.le_refl _);obtain ⟨ad,rfl,hab,hcx⟩:=(HA.o.keep HB.o (Nat.le_refl _)) k hkl;obtain ⟨s0,s1⟩:=gy (a:=ad.add (k * 2)) hcx;have HT:=Hd (show L.take (k+1)=L.take k ++ [L[k]] from by rw [List.take_add_one,List.getElem?_eq_getElem hkl];rfl);have HTL:=Hd (show (L.take k).length=k by rw [List.length_take];omega);clear hcx;generalize L[k]=x at *;have X1:=Hd (Blk.new wr (enC x) 209);have B1:=Hd (HB.o.alloc HB.o.size (.cells (enC x) 209));have O1:=Hd (HO.o.alloc (.cells (enC x) 209));clear HO HB;go_upto_region 7 with fail;clear s0 s1;generalize wr.alloc (.cells (enC x) 209)=w2 at *;have x0:=X1.o.cell 0;have x1:=X1.o.cell 1;go_wp2_with fail;refine (IP x w2).mono ?_;rintro e w3 ⟨rfl,hb⟩;have B3:=Hd ((aa B1.o hb).alloc (aa B1.o hb).size (.cells (enC x) 209));have O3:=Hd ((O1.o.below hb).alloc (.cells (enC x) 209));have RW:=Hd (aI EEn w3 (enC x) 209 x rfl (Nat.lt_succ_self w3.heap.size));clear hb x0 x1 B1 O1 X1;go_wp2_with (at_builtin;refine aj EEn rfl (.tmp 20) (.tmp 24) rfl w.heap.size (.slice A0 n0 c0) (L.take k) rfl O3.o (w3.heap.size+1) (some ⟨w3.heap.size,0,none⟩) 1 1 [x] rfl rfl RW.o (by rw [HTL.o];have:=HL.o;simp;omega) B3.o.size ?_);intro v6 w6 ho6 hg6 iR;have B6:=Hd (B3.o.grown hg6 B3.o.size (fun q e=>O3.o.ge q e));rw [← HT.o] at ho6;obtain ⟨A6,c6,e6,_⟩:=ho6.at;subst e6;have O6:=Hd ho6;clear ho6 hg6 iR;go_wp2_with fail;go_roundw;case rel=>exact ⟨k+1,_,_,_,by omega,rfl,by go_num,O6,B6⟩
     case measure=>simp [intOf];omega
    case neg=>
     obtain rfl:k=n:=(by omega);have kn:¬ (k:Int) < (k:Int):=(by omega);have hT:L.take k=L:=(by rw [HN.o];exact List.take_length);rw [hT] at HO;obtain ⟨A5,c5,e5,_⟩:=HO.o.at;injection e5 with h1 h2 h3;subst h1 h2 h3;go_wp2_with fail;go_ret;exact ⟨_,_,rfl,HO.o,HB.o⟩
def NcP (nd:Nd) (w:World) (e:Ending) (w' :World):Prop:=∃ (A:Option Addr) (c:Nat),e= .returned (.agg (ndC nd (.slice A nd.es.length c)))∧ax EEn w' w.heap.size (.slice A nd.es.length c) nd.es∧Below w.heap.size w w'
theorem IQ (nd:Nd) (A:Option Addr) (n c:Nat) (hn:n=nd.es.length) (hl:n≤1000) (w:World) (h:AtE EEn w w.heap.size A nd.es):
  Calls Tryz.prog 224 #[.agg (ndC nd (.slice A n c))] w (NcP nd w):=by
 have B0:=Hd (((Below.refl w.heap.size w).alloc (Nat.le_refl _) (.cells (ndC nd (.slice A n c)) 145)).alloc (by simp) (.cells ndZ 145));have X0:=Hd ((Blk.new w (ndC nd (.slice A n c)) 145).alloc (.cells ndZ 145));have R0:=Hd (show Blk ((w.alloc (.cells (ndC nd (.slice A n c)) 145)).alloc (.cells ndZ 145)) (w.heap.size+1) 145 ndZ by
  have h:=Blk.new (w.alloc (.cells (ndC nd (.slice A n c)) 145)) ndZ 145;simpa using h)
 have H0:=Hd ((h.keep B0.o (Nat.le_refl _)).more B0.o.size);have HN:=Hd hn;have HL:=Hd hl;clear h hn hl;go_in;go_upto_region 1 with fail;generalize (w.alloc (.cells (ndC nd (.slice A n c)) 145)).alloc (.cells ndZ 145)=w1 at *;have n7:=X0.o.cell 7;go_wp2_with fail;refine (Eu nd.es A n c HN.o HL.o w1 H0.o).mono ?_;rintro e w2 ⟨A2,c2,rfl,ho,hb⟩;have B2:=Hd (aa B0.o hb);have X2:=Hd (X0.o.below hb);have R2:=Hd (R0.o.below hb);have O2:=Hd (ho.low B0.o.size);have HW:=Hd B0.o.size;clear n7 ho B0 X0 R0 H0;have n7:=X2.o.cell 7;have f7:=X2.o.free 7;have XP:=Hd (show Blk (w2.setCell ⟨w.heap.size,7,none⟩ (.slice A2 nd.es.length c2)) w.heap.size 145 (ndC nd (.slice A2 nd.es.length c2)) from X2.o.put 7 _);have RP:=Hd (R2.o.af (.slice A2 nd.es.length c2) (show w.heap.size+1≠(⟨w.heap.size,7,none⟩:Addr).block from by simp));have BP:=Hd (B2.o.setCell (p:=⟨w.heap.size,7,none⟩) (Nat.le_refl _) (.slice A2 nd.es.length c2));have OP:=Hd (O2.o.bH (g:=w.heap.size) (i:=7) (ay O2.o X2.o (by decide)) (.slice A2 nd.es.length c2));go_upto_region 2 with fail;clear n7 f7 X2 R2 B2 O2;generalize w2.setCell ⟨w.heap.size,7,none⟩ (.slice A2 nd.es.length c2)=w3 at *;have c0:=XP.o.cell 0;have c1:=XP.o.cell 1;have c2' :=XP.o.cell 2;have c3:=XP.o.cell 3;have c4:=XP.o.cell 4;have c5:=XP.o.cell 5;have c6:=XP.o.cell 6;have c7:=XP.o.cell 7;go_wp2_with ((with_reducible refine ae ?_ 145 (.tmp 2) (.tmp 7) ?_ RP.o (ndC nd (.slice A2 nd.es.length c2)) ?_ ?_ ?_ ?_ ?_ ?_);(iterate 4 rfl);(exact gY _ _);rfl;(exact fF _ _ _ _));refine bodyPost_ret (Et (fn:=Tryz.f224) rfl _ _ (w.heap.size+1) nd (.slice A2 nd.es.length c2) rfl (Blk.row RP.o _)) rfl ?_;exact ⟨A2,c2,rfl,OP.o.uL (ay OP.o RP.o (by decide)) _,ai BP.o (by omega) _⟩
theorem IU (dev ino:Int) (ds:List Dm) (A:Option Addr) (n c:Nat) (hn:n=ds.length) (w:World) (h:bZ w w.heap.size A ds):
   Calls Tryz.prog 158 #[fsV A n c,flV dev ino] w (kF (aD (ds.map Dm.dv) dev ino) w):=by
 have HN:=Hd hn;have hs1:(w.alloc (.cells #[.slice A n c] 28)).heap.size=w.heap.size+1:=by simp
 have hs2:((w.alloc (.cells #[.slice A n c] 28)).alloc (.cells #[.int .i64 dev, .int .i64 ino] 44)).heap.size=w.heap.size+1+1:=by simp
 have B0:=Hd (show Below w.heap.size w (((w.alloc (.cells #[.slice A n c] 28)).alloc (.cells #[.int .i64 dev, .int .i64 ino] 44)).alloc (.cells ndZ 145)) from
   (((Below.refl w.heap.size w).alloc (Nat.le_refl _) _).alloc (by rw [hs1];omega) _).alloc (by rw [hs2];omega) _)
 have F0:=Hd (h.below B0.o);have R0:=Hd (show Blk (((w.alloc (.cells #[.slice A n c] 28)).alloc (.cells #[.int .i64 dev, .int .i64 ino] 44)).alloc (.cells ndZ 145)) (w.heap.size+1+1) 145 ndZ by
   have h:=Blk.new ((w.alloc (.cells #[.slice A n c] 28)).alloc (.cells #[.int .i64 dev, .int .i64 ino] 44)) ndZ 145;rw [hs2] at h;exact h)
 clear h hn hs1 hs2;go_in;go_wp2_with fail;generalize (((w.alloc (.cells #[.slice A n c] 28)).alloc (.cells #[.int .i64 dev, .int .i64 ino] 44)).alloc (.cells ndZ 145))=w1 at *;refine (IL dev ino ds A n c HN.o w1 F0.o).mono ?_;rintro e w2 ⟨⟨hq,rfl⟩ | ⟨x,ad,hq,rfl,hab,hcx,hes,hsz⟩,hb⟩
 · have R2:=Hd (R0.o.below hb);have B2:=Hd (B0.o.trans (hb.mono B0.o.size));have HQ:=Hd hq;clear hq hb;go_wp2_with ((with_reducible refine ae ?_ 145 (.tmp 4) (.tmp 12) ?_ R2.o ndZ ?_ ?_ ?_ ?_ ?_ ?_);(iterate 4 rfl);(exact gY zNd _);rfl;(exact fF zNd _ _ _));refine bodyPost_ret (nD (fn:=Tryz.f158) rfl _ _ (w.heap.size+1+1) zNd (.slice none 0 0) rfl (Blk.row R2.o _)) rfl ?_;rw [HQ.o];exact ⟨rfl,ai B2.o (by omega) _⟩
 · obtain ⟨t0,t1,t2,t3,t4,t5,t6,t7⟩:=dh (a:=ad) (fun j hj=>(hb.cell (by rw [ak];exact hab)).trans (hcx j hj));have R2:=Hd (R0.o.below hb);have B2:=Hd (B0.o.trans (hb.mono B0.o.size));have E2:=Hd (hes.below hb);have HQ:=Hd hq;have HSZ:=Hd hsz;have HLW:=Hd (show w.heap.size≤w2.heap.size from B2.o.size);clear hq hb hcx hes hsz hab;go_wp2_with fail;refine (IQ x.nd x.A x.nd.es.length x.c rfl HSZ.o.1 w2 E2.o).mono ?_;rintro e w3 ⟨A3,c3,rfl,ho,hb⟩;have R3:=Hd (R2.o.below hb);have B3:=Hd (aa B2.o hb);have O3:=Hd (ho.low HLW.o);clear ho hb t0 t1 t2 t3 t4 t5 t6 t7;go_wp2_with ((with_reducible refine ae ?_ 145 (.tmp 4) (.tmp 16) ?_ R3.o (ndC x.nd (.slice A3 x.nd.es.length c3)) ?_ ?_ ?_ ?_ ?_ ?_);(iterate 4 rfl);(exact gY _ _);rfl;(exact fF _ _ _ _));refine bodyPost_ret (nD (fn:=Tryz.f158) rfl _ _ (w.heap.size+1+1) x.nd (.slice A3 x.nd.es.length c3) rfl (Blk.row R3.o _)) rfl ?_;rw [HQ.o];exact ⟨A3,c3,rfl,O3.o.uL (ay O3.o R3.o (by decide)) _,ai B3.o (by omega) _,HSZ.o⟩
def iG (f:List Dv) (dev ino:Int):Nd:=(aD f dev ino).getD zNd
theorem AB (f:List Dv) (dev ino:Int):bM f dev ino=((aD f dev ino).isSome && (iG f dev ino).kind == 2):=by
 unfold bM iG;cases aD f dev ino <;> rfl
theorem LC (f:List Dv) (dev ino:Int):dZ f dev ino=nQ (iG f dev (iG f dev ino).par).es ino:=by
 have e:upF f dev ino=(iG f dev ino).par:=by
  unfold upF iG;cases aD f dev ino <;> rfl
 rw [rV,e];generalize (iG f dev ino).par=q;unfold iG;cases aD f dev q <;> rfl
def NdP (f:List Dv) (dev ino:Int) (w:World) (e:Ending) (w' :World):Prop:=
 ∃ (A:Option Addr) (c:Nat),e= .returned (.tuple #[.agg (ndC (iG f dev ino) (.slice A (iG f dev ino).es.length c)), .bool (aD f dev ino).isSome])∧AtE EEn w' w'.heap.size A (iG f dev ino).es∧(iG f dev ino).es.length≤1000∧Below w.heap.size w w'
theorem xY (dev ino:Int) (ds:List Dm) (A:Option Addr) (n c:Nat) (hn:n=ds.length) (w:World) (h:bZ w w.heap.size A ds):
  Calls Tryz.prog 158 #[fsV A n c,flV dev ino] w (NdP (ds.map Dm.dv) dev ino w):=by
 refine (IU dev ino ds A n c hn w h).mono ?_;intro e w' hp;unfold NdP iG;cases hq:aD (ds.map Dm.dv) dev ino with
 | none=>
  rw [hq] at hp;obtain ⟨rfl,hb⟩:=hp;exact ⟨none,0,rfl,AtE.nil,Nat.zero_le _,hb⟩
 | some nd=>
  rw [hq] at hp;obtain ⟨A2,c2,rfl,ho,hb,hs⟩:=hp;exact ⟨A2,c2,rfl,aU ho,hs.1,hb⟩
theorem Cf (dev ino:Int) (ds:List Dm) (A:Option Addr) (n c:Nat) (hn:n=ds.length) (v:Value) (w:World) (h:bZ w w.heap.size A ds):
  Calls Tryz.prog 95 #[.agg #[slV A n c,v],flV dev ino] w (IM (.bool (bM (ds.map Dm.dv) dev ino)) w):=by
 have HN:=Hd hn;have B0:=Hd (aT w #[slV A n c,v] #[.int .i64 dev, .int .i64 ino] 31 44);have F0:=Hd (h.below B0.o);have HD:=Hd (AB (ds.map Dm.dv) dev ino);clear h hn;go_in;go_wp2_with fail;generalize (w.alloc (.cells #[slV A n c,v] 31)).alloc (.cells #[.int .i64 dev, .int .i64 ino] 44)=w0 at *;refine (xY dev ino ds A n c HN.o w0 F0.o).mono ?_;rintro e w1 ⟨A1,c1,rfl,_,_,hb⟩;have B1:=Hd (B0.o.trans (hb.mono B0.o.size));clear hb;generalize iG (ds.map Dm.dv) dev ino=nd at *;have D1:=Hd (Blk.new w1 (ndC nd (.slice A1 nd.es.length c1)) 145);have B2:=Hd (B1.o.alloc B1.o.size (.cells (ndC nd (.slice A1 nd.es.length c1)) 145));go_upto_region 2 with fail;generalize w1.alloc (.cells (ndC nd (.slice A1 nd.es.length c1)) 145)=w2 at *;have d1:=D1.o.cell 1;cases ho:(aD (ds.map Dm.dv) dev ino).isSome with
 | false=>
  rw [ho] at HD;go_wp2_with fail;go_ret;exact ⟨by rw [HD.o];rfl,B2.o⟩
 | true=>
  rw [ho] at HD;go_wp2_with fail;go_ret;exact ⟨by rw [HD.o];rfl,B2.o⟩
theorem xZ (dev:Int) (u:Value) (ms:List Mt) (Am:Option Addr) (nm cm:Nat) (hn:nm=ms.length) (hl:nm≤1000) (w:World) (h:AtE EMt w w.heap.size Am ms):
  Calls Tryz.prog 159 #[.agg #[u,slV Am nm cm], .int .i64 dev] w (IM (.tuple #[flV (onR ms dev).1 (onR ms dev).2.1, .bool (onR ms dev).2.2]) w):=by
 have HN:=Hd hn;have HL:=Hd hl;have B0:=Hd (aT w #[u,slV Am nm cm] #[.int .i64 0, .int .i64 0] 31 44);have M0:=Hd (h.below B0.o);have V0:=Hd ((Blk.new w #[u,slV Am nm cm] 31).alloc (.cells #[.int .i64 0, .int .i64 0] 44));have R0:=Hd (show Blk ((w.alloc (.cells #[u,slV Am nm cm] 31)).alloc (.cells #[.int .i64 0, .int .i64 0] 44)) (w.heap.size+1) 44 #[.int .i64 0, .int .i64 0] by
  have h:=Blk.new (w.alloc (.cells #[u,slV Am nm cm] 31)) #[.int .i64 0, .int .i64 0] 44;simp only [World.size_alloc] at h;exact h)
 have HR:=Hd (show onR ms dev=match onF ms dev with | some (a,b)=>(a,b,true) | none=>(0,0,false) from rfl);clear h hn hl;go_in;go_upto_region 1 with fail;generalize (w.alloc (.cells #[u,slV Am nm cm] 31)).alloc (.cells #[.int .i64 0, .int .i64 0] 44)=w0 at *;have v1:=V0.o.cell 1;go_wp2_with fail;clear v1;go_loopw [11] (fun i wr=>∃ k:Nat,k≤ms.length∧i= .int .i64 k∧Hid (Below w0.heap.size w0 wr)∧Hid (∀ q (hq:q < k) (hql:q < ms.length),(ms[q].dev == dev)=false)) (fun i _=>ms.length - (intOf i).toNat);case atStart=>exact ⟨0,Nat.zero_le _,rfl,Hd (Below.refl _ _),Hd (fun q hq=>absurd hq (Nat.not_lt_zero q))⟩
 case round=>
  obtain ⟨k,hk,rfl,hbw,hno⟩:=hrel;have hn:=HN.o;have WK:=Hd (dH (q:=k) (by have:=HL.o;omega));have R1:=Hd (R0.o.below hbw.o);have B1:=Hd (aa B0.o hbw.o);have M1:=Hd (M0.o.below hbw.o);by_cases hlt:k < ms.length;case neg=>
   have k1:¬ (k:Int) < (nm:Int):=(by omega);have HR2:=Hd (HR.o.trans (by rw [Bl (fun q hq=>hno.o q (by omega) hq)]));clear hno hn;go_wp2_with ((with_reducible refine ae ?_ 44 (.tmp 4) (.tmp 22) ?_ R1.o #[.int .i64 0, .int .i64 0] ?_ ?_ ?_ ?_ ?_ ?_);(iterate 4 rfl);(exact dK _ _);rfl;(exact bU _ _));refine bodyPost_ret (ic (fn:=Tryz.f159) rfl _ _ (w.heap.size+1) 0 0 rfl (Blk.row R1.o _)) rfl ?_;rw [HR2.o];exact ⟨rfl,ai B1.o (by omega) _⟩
  case pos=>
   have k1:(k:Int) < (nm:Int):=(by omega);have k2:(0:Int)≤(k:Int):=(by omega);obtain ⟨am,rfl,hab,hcx⟩:=M1.o k hlt;obtain ⟨m0,m1,m2⟩:=kJ (a:=am.add (k * 3)) hcx;have HX:=Hd (fun h:(ms[k].dev == dev)=true=>Bj hlt (fun q hq=>hno.o q hq (by omega)) h);have HY:=Hd (fun h:(ms[k].dev == dev)=false=>show ∀ q (hq:q < k+1) (hql:q < ms.length),(ms[q].dev == dev)=false from fun q hq hql=>by
    by_cases he:q=k
    · subst he;exact h
    · exact hno.o q (by omega) hql)
   clear hcx hno hn;generalize ms[k]=m at *;have X2:=Hd (Blk.new wr (mtC m) 199);have R2:=Hd (R1.o.alloc (.cells (mtC m) 199));have B2:=Hd (B1.o.alloc B1.o.size (.cells (mtC m) 199));have HB2:=Hd (hbw.o.alloc hbw.o.size (.cells (mtC m) 199));clear R1 B1 M1 hbw;go_upto_region 4 with fail;clear m0 m1 m2;generalize wr.alloc (.cells (mtC m) 199)=w2 at *;have x0:=X2.o.cell 0;have x1:=X2.o.cell 1;have x2:=X2.o.cell 2;cases hb:(m.dev == dev) with
   | true=>
    have HR2:=Hd (HR.o.trans (by rw [HX.o hb]));clear HX HY;go_wp2_with ((with_reducible refine ae ?_ 44 (.tmp 4) (.tmp 20) ?_ R2.o #[.int .i64 m.od, .int .i64 m.oi] ?_ ?_ ?_ ?_ ?_ ?_);(iterate 4 rfl);(exact dK _ _);rfl;(exact bU _ _));refine bodyPost_ret (ic (fn:=Tryz.f159) rfl _ _ (w.heap.size+1) m.od m.oi rfl (Blk.row R2.o _)) rfl ?_;rw [HR2.o];exact ⟨rfl,ai B2.o (by omega) _⟩
   | false=>
    have HZ:=Hd (HY.o hb);clear HX HY;obtain ⟨wk1,wk2⟩:=WK.o;go_wp2_with fail;clear wk1 wk2;go_roundw;case rel=>exact ⟨k+1,hlt,rfl,HB2,HZ⟩
    case measure=>exact aN hlt _ rfl
theorem IV (dev:Int) (u:Value) (ms:List Mt) (Am:Option Addr) (nm cm:Nat) (hn:nm=ms.length) (hl:nm≤1000) (w:World) (h:AtE EMt w w.heap.size Am ms):
   Calls Tryz.prog 96 #[.agg #[u,slV Am nm cm], .int .i64 dev] w (IM (.bool (fE ms dev)) w):=by
 have B0:=Hd ((Below.refl w.heap.size w).alloc (Nat.le_refl _) (.cells #[u,slV Am nm cm] 31));have HO:=Hd (xZ dev u ms Am nm cm hn hl _ (h.below B0.o));have HM:=Hd (vM ms dev);clear h hn;by_cases h0:dev=0
 · have b0:=(bI h0).1;have HM2:=Hd (show fE ms dev=true by rw [HM.o,b0];simp);clear HM;go_in;go_wp2_with fail;go_ret;exact ⟨by rw [HM2.o];rfl,B0.o⟩
 · have b0:=(aM h0).1;have HM2:=Hd (show fE ms dev=(onR ms dev).2.2 by rw [HM.o,b0];simp);clear HM;go_in;go_wp2_with fail;refine HO.o.mono ?_;rintro e w1 ⟨rfl,hb⟩;have B1:=Hd (B0.o.trans (hb.mono B0.o.size));clear hb HO;generalize onR ms dev=o at *;obtain ⟨a,b,o⟩:=o;have HB2:=Hd (B1.o.alloc B1.o.size (.cells #[.int .i64 a, .int .i64 b] 44));go_wp2_with fail;go_ret;exact ⟨by rw [HM2.o];rfl,HB2.o⟩
theorem IW (dev ino:Int) (ds:List Dm) (A:Option Addr) (n c:Nat) (hn:n=ds.length) (v:Value) (w:World) (h:bZ w w.heap.size A ds):
  Calls Tryz.prog 100 #[.agg #[slV A n c,v],flV dev ino] w (IM (.string (dZ (ds.map Dm.dv) dev ino)) w):=by
 have HN:=Hd hn;have B0:=Hd (aT w #[slV A n c,v] #[.int .i64 dev, .int .i64 ino] 31 44);have F0:=Hd (h.below B0.o);have V0:=Hd ((Blk.new w #[slV A n c,v] 31).alloc (.cells #[.int .i64 dev, .int .i64 ino] 44));have U0:=Hd (show Blk ((w.alloc (.cells #[slV A n c,v] 31)).alloc (.cells #[.int .i64 dev, .int .i64 ino] 44)) (w.heap.size+1) 44 #[.int .i64 dev, .int .i64 ino] by
  have h:=Blk.new (w.alloc (.cells #[slV A n c,v] 31)) #[.int .i64 dev, .int .i64 ino] 44;simp only [World.size_alloc] at h;exact h)
 have HND:=Hd (LC (ds.map Dm.dv) dev ino);clear h hn;go_in;go_wp2_with fail;generalize (w.alloc (.cells #[slV A n c,v] 31)).alloc (.cells #[.int .i64 dev, .int .i64 ino] 44)=w0 at *;refine (xY dev ino ds A n c HN.o w0 F0.o).mono ?_;rintro e w1 ⟨A1,c1,rfl,_,_,hb⟩;generalize iG (ds.map Dm.dv) dev ino=nd at *;have B3:=Hd ((B0.o.trans (hb.mono B0.o.size)).alloc (B0.o.trans (hb.mono B0.o.size)).size (.cells (ndC nd (.slice A1 nd.es.length c1)) 145));have F3:=Hd ((F0.o.below hb).below ((Below.refl w1.heap.size w1).alloc (Nat.le_refl _) (.cells (ndC nd (.slice A1 nd.es.length c1)) 145)));have V3:=Hd ((V0.o.below hb).alloc (.cells (ndC nd (.slice A1 nd.es.length c1)) 145));have U3:=Hd ((U0.o.below hb).alloc (.cells (ndC nd (.slice A1 nd.es.length c1)) 145));have D3:=Hd (Blk.new w1 (ndC nd (.slice A1 nd.es.length c1)) 145);clear hb;go_upto_region 2 with fail;generalize w1.alloc (.cells (ndC nd (.slice A1 nd.es.length c1)) 145)=w3 at *;have v0:=V3.o.cell 0;have u0:=U3.o.cell 0;have d5:=D3.o.cell 5;go_wp2_with fail;clear v0 u0 d5 B0 F0 V0 U0;refine (xY dev nd.par ds A n c HN.o w3 F3.o).mono ?_;rintro e w4 ⟨A4,c4,rfl,ho,hl,hb⟩;generalize iG (ds.map Dm.dv) dev nd.par=p at *;have HS:=Hd (show NaS w (w4.alloc (.cells (ndC p (.slice A4 p.es.length c4)) 145)) dev ino p.es w4.heap.size p A4 c4 from ⟨(B3.o.trans (hb.mono B3.o.size)).alloc (B3.o.trans (hb.mono B3.o.size)).size _,(U3.o.below hb).alloc _,Blk.new w4 _ _,ho.below ((Below.refl w4.heap.size w4).alloc (Nat.le_refl _) _),hl⟩);clear hb ho hl B3 F3 V3 U3 D3;go_upto_region 3 with fail;generalize w4.alloc (.cells (ndC p (.slice A4 p.es.length c4)) 145)=w5 at *;have d7:=HS.o.D.cell 7;generalize p.es=es at *;go_wp2_with fail;clear d7;go_loopw [32] (fun ix wr=>∃ k:Nat,k≤es.length∧ix= .int .i64 k∧Hid (Below w5.heap.size w5 wr)∧Hid (∀ q (hq:q < k) (hql:q < es.length),(es[q].ino == ino)=false)) (fun ix _=>es.length - (intOf ix).toNat);case atStart=>exact ⟨0,Nat.zero_le _,rfl,Hd (Below.refl _ _),Hd (fun q hq=>absurd hq (Nat.not_lt_zero q))⟩
 case round=>
  obtain ⟨k,hk,rfl,hbw,hno⟩:=hrel;have oO:=HS.o.few;have WK:=Hd (dH (q:=k) (by omega));have B6:=Hd (aa HS.o.low hbw.o);have U6:=Hd (HS.o.U.below hbw.o);by_cases hlt:k < es.length;case neg=>
   have k1:¬ (k:Int) < (es.length:Int):=(by omega);have HR2:=Hd (HND.o.trans (nS (fun q hq=>hno.o q (by omega) hq)));clear hno oO;go_wp2_with fail;go_ret;exact ⟨by rw [HR2.o];rfl,B6.o⟩
  case pos=>
   have k1:(k:Int) < (es.length:Int):=(by omega);have k2:(0:Int)≤(k:Int):=(by omega);obtain ⟨ad,rfl,hab,hcx⟩:=(HS.o.E.below hbw.o) k hlt;obtain ⟨e0,e1⟩:=gy (a:=ad.add (k * 2)) hcx;have HX:=Hd (fun h:(es[k].ino == ino)=true=>nR hlt (fun q hq=>hno.o q hq (by omega)) h);have HY:=Hd (fun h:(es[k].ino == ino)=false=>show ∀ q (hq:q < k+1) (hql:q < es.length),(es[q].ino == ino)=false from fun q hq hql=>by
    by_cases he:q=k
    · subst he;exact h
    · exact hno.o q (by omega) hql)
   clear hcx hno oO;generalize es[k]=x at *;have X7:=Hd (Blk.new wr (enC x) 209);have U7:=Hd (U6.o.alloc (.cells (enC x) 209));have B7:=Hd (B6.o.alloc B6.o.size (.cells (enC x) 209));have HB7:=Hd (hbw.o.alloc hbw.o.size (.cells (enC x) 209));clear U6 B6 hbw;go_upto_region 6 with fail;clear e0 e1;generalize wr.alloc (.cells (enC x) 209)=w7 at *;have x0:=X7.o.cell 0;have x1:=X7.o.cell 1;have u1:=U7.o.cell 1;cases hb:(x.ino == ino) with
   | true=>
    have HR2:=Hd (HND.o.trans (HX.o hb));clear HX HY;go_wp2_with fail;go_ret;exact ⟨by rw [HR2.o];rfl,B7.o⟩
   | false=>
    have HZ:=Hd (HY.o hb);clear HX HY;obtain ⟨wk1,wk2⟩:=WK.o;go_wp2_with fail;clear wk1 wk2;go_roundw;case rel=>exact ⟨k+1,hlt,rfl,HB7,HZ⟩
    case measure=>exact aN hlt _ rfl
section
variable {F:Fence} {n:Nat} {P:Program} {Q:Exit→Act→World→Prop} {a:Act} {w:World} {b:Frame} {k:List Item} {cs:List Frame}
theorem dM {c:Code} :step P (lone (b.atR a (.code (.scope c) :: k)) cs w)= .next (lone (b.atR a (.code c :: .inScope c :: k)) cs w):=
 step_lone_go (by simp [stepG,stepG.exec,Frame.atR])
theorem lZ {c:Code} :step P (lone (b.atR a (.inScope c :: k)) cs w)= .next (lone (b.atR a k) cs w):=
 step_lone_go (by simp [stepG,stepG.exec,Frame.atR])
theorem ko (id:Nat) (c:Code) (k:List Item):exitTo id (.inScope c :: k)=exitTo id k:=by simp [exitTo]
theorem ja {c:Code} (h:c.wpIn F n P (Exit.noGoto Q) a w):(Code.scope c).wpIn F n P Q a w:=by
 intro b k cs hro hb hr;have h0:(lone (b.atR a (.code (.scope c) :: k)) cs w).fenced P F:=fenced_calm hb hr rfl;obtain ⟨e,a₁,w₁,hq,harr⟩:=h b (.inScope c :: k) cs hro hb hr;cases e with
 | normal=>exact ⟨.normal,a₁,w₁,hq, .head h0 dM (StepsIn.trans harr (.one (fenced_calm hb hr rfl) lZ))⟩
 | exit id=>exact ⟨.exit id,a₁,w₁,hq, .of_steps (.one h0 dM) ⟨fun k' hk=>harr.1 k' (by rw [ko];exact hk),fun hr hk=>harr.2 hr (by rw [ko];exact hk)⟩⟩
 | goto l=>exact hq.elim
 | ret=>exact ⟨_,a₁,w₁,hq, .of_steps (.one h0 dM) harr⟩
 | panic ch=>exact ⟨_,a₁,w₁,hq, .of_steps (.one h0 dM) harr⟩
 | outgrown=>exact ⟨_,a₁,w₁,hq, .of_steps (.one h0 dM) harr⟩
end
open Go.RowKit Go.Shelf
attribute [local go_sem] Oper.semAt_some
inductive Chn (f:List Dv) (ms:List Mt):List (Int×Int)→Int→Int→Prop
 | top:onF ms 0=none→bM f 0 1=true→Chn f ms [(0,1)] 0 1
 | over {l:List (Int×Int)} {dev a b:Int} :bM f dev 1=true→dev≠0→onF ms dev=some (a,b)→Chn f ms l a b→Chn f ms ((dev,1) :: l) dev 1
 | step {l:List (Int×Int)} {dev ino:Int} {n:Nd} :aD f dev ino=some n→n.kind=2→ino≠1→Chn f ms l dev n.par→Chn f ms ((dev,ino) :: l) dev ino
theorem qx {f:List Dv} {dev ino:Int} (h:bM f dev ino=true):∃ n,aD f dev ino=some n∧n.kind=2:=by
 unfold bM at h;cases hq:aD f dev ino with
 | none=>rw [hq] at h;cases h
 | some n=>rw [hq] at h;exact ⟨n,rfl,by simpa using h⟩
theorem Chn.head {f:List Dv} {ms:List Mt} {l:List (Int×Int)} {d i:Int} (h:Chn f ms l d i):∃ n,aD f d i=some n∧n.kind=2∧n.ino=i∧∃ r,l=(d,i) :: r:=by
 have k:∀ {n:Nd} {d i:Int},aD f d i=some n→n.ino=i:=fun h=>by
  obtain ⟨_,_,_,h4⟩:=aG h;exact h4
 cases h with
 | top h1 h2=>
  obtain ⟨n,e1,e2⟩:=qx h2;exact ⟨n,e1,e2,k e1,_,rfl⟩
 | over h1 h2 h3 h4=>
  obtain ⟨n,e1,e2⟩:=qx h1;exact ⟨n,e1,e2,k e1,_,rfl⟩
 | step h1 h2 h3 h4=>exact ⟨_,h1,h2,k h1,_,rfl⟩
theorem Chn.AJ {f:List Dv} {ms:List Mt} {l:List (Int×Int)} {d i:Int} (h:Chn f ms l d i) (hi:i≠1):∃ (n:Nd) (r:List (Int×Int)),aD f d i=some n∧Chn f ms r d n.par∧l=(d,i) :: r:=by
 cases h with
 | top h1 h2=>exact absurd rfl hi
 | over h1 h2 h3 h4=>exact absurd rfl hi
 | step h1 h2 h3 h4=>exact ⟨_,_,h1,h4,rfl⟩
theorem Chn.Ev {f:List Dv} {ms:List Mt} {l:List (Int×Int)} {d:Int} (h:Chn f ms l d 1):(d=0∧onF ms 0=none∧l= [(0,1)])∨(d≠0∧∃ (a b:Int) (r:List (Int×Int)),onF ms d=some (a,b)∧Chn f ms r a b∧l=(d,1) :: r):=by
 cases h with
 | top h1 h2=>exact .inl ⟨rfl,h1,rfl⟩
 | over h1 h2 h3 h4=>exact .inr ⟨h2,_,_,_,h3,h4,rfl⟩
 | step h1 h2 h3 h4=>exact absurd rfl h3
theorem yc {ms:List Mt} {dev a b:Int} (h:onF ms dev=some (a,b)):onR ms dev=(a,b,true):=by unfold onR;rw [h]
theorem yg {ms:List Mt} {dev:Int} (h:onF ms dev=none):onR ms dev=(0,0,false):=by unfold onR;rw [h]
structure jT (base lo:Nat) (A B:World):Prop where
 low:Below base A B
 cells:∀ b,lo≤b→∀ (t:TypeId) (cs:Array Value),t≠9→Blk A b t cs→Blk B b t cs
theorem jT.trans {base lo:Nat} {A B C:World} (h:jT base lo A B) (k:jT base lo B C):jT base lo A C:=⟨h.low.trans k.low,fun b hb t cs ht hq=>k.cells b hb t cs ht (h.cells b hb t cs ht hq)⟩
theorem jT.obj {base lo:Nat} (A:World) (l:Nat) (o o' :Obj) (hl:base≤l) (h:A.heap[l]? =some o) (ho:o.isCells=false):jT base lo A (A.putObj l o'):=
 ⟨jA A o' hl (Array.getElem?_eq_some_iff.1 h).1,fun b _ t cs _ hq=>by
  have hne:l≠b:=fun e=>by
   subst e;have hq' :A.heap[l]? =some (.cells cs t (0,0)):=hq;rw [h] at hq';injection hq' with hq';rw [hq'] at ho;cases ho
  exact (World.putObj_heap_other hne.symm).trans hq⟩
theorem jT.below {base lo:Nat} {A B:World} (hb:Below A.heap.size A B) (h:base≤A.heap.size):jT base lo A B:=⟨hb.mono h,fun b _ t cs _ hq=>Blk.below hq hb⟩
theorem fZ {lo hi:Nat} {A B:World} (hb:Below A.heap.size A B) (h:lo≤A.heap.size):Mid lo hi A B:=⟨hb.mono h,fun b _ hlt=>hb.block b hlt⟩
theorem oI {W:World} {lo hi B i:Nat} (v:Value) (h1:lo≤B) (h2:B < hi):Mid lo hi W (W.setCell ⟨B,i,none⟩ v):=
 ⟨(Below.refl lo W).setCell (p:=⟨B,i,none⟩) h1 v,fun b hb _=>Below.heap_setCell W ⟨B,i,none⟩ v b (by show b≠B;omega)⟩
def qM (ds:List Dm) (k:Nat):Nat:=((ds.take k).map (fun d=>d.xs.length)).sum
theorem yh (ds:List Dm) (h:∀ d∈ds,d.xs.length≤1000) (k:Nat):qM ds k≤1000 * k:=by
 unfold qM;induction ds generalizing k with
 | nil=>simp
 | cons d ds ih=>
  cases k with
  | zero=>simp
  | succ k=>
   have h1:=ih (fun x hx=>h x (List.mem_cons_of_mem _ hx)) k;have h2:=h d (List.mem_cons_self ..);simp only [List.take_succ_cons,List.map_cons,List.sum_cons];omega
theorem yj (ds:List Dm):qM ds 0=0:=by unfold qM;simp
theorem ym (ds:List Dm) {k:Nat} (hk:k < ds.length):qM ds (k+1)=qM ds k+(ds[k]'hk).xs.length:=by
 unfold qM;rw [List.take_add_one,List.getElem?_eq_getElem hk];simp only [Option.toList,List.map_append,List.sum_append,List.map_cons,List.map_nil,List.sum_cons,List.sum_nil,Nat.add_zero]
theorem AL (ds:List Dm):qM ds ds.length=yM (ds.map Dm.dv):=by
 unfold qM yM;rw [List.take_length,List.map_map];congr 1;apply List.map_congr_left;intro d _;simp [Dm.dv]
theorem LD {a b:Nat} (h:a+b≤1000000):wrap64 ((a:Int)+(b:Int))=((a+b:Nat):Int)∧IntKind.i64.wrap ((a:Int)+(b:Int))=((a+b:Nat):Int):=
 ⟨(IntWalk.wrap64_in _ (by omega)).trans (Int.natCast_add a b).symm,(IntWalk.i64_in _ (by omega)).trans (Int.natCast_add a b).symm⟩
structure ChS (w wr:World) (base B:Nat) (A:Option Addr) (n c:Nat) (ds:List Dm) (Am:Option Addr) (nm cm:Nat) (ms:List Mt) (d i:Int):Prop where
 V:Blk wr B 31 #[slV A n c,slV Am nm cm]
 U:Blk wr (B+1) 44 #[.int .i64 d, .int .i64 i]
 F:bZ wr base A ds
 M:AtE EMt wr base Am ms
 hb:base≤B
section
variable {w wr w' :World} {base B:Nat} {A Am:Option Addr} {n c nm cm:Nat} {ds:List Dm} {ms:List Mt} {d i d' i' :Int}
theorem ChS.lt (h:ChS w wr base B A n c ds Am nm cm ms d i):B+1 < wr.heap.size:=h.U.lt
theorem ChS.grow (h:ChS w wr base B A n c ds Am nm cm ms d i) (hb:Below wr.heap.size wr w'):ChS w w' base B A n c ds Am nm cm ms d i:=by
 have:=h.lt;have:=h.hb;exact ⟨h.V.below hb,h.U.below hb,h.F.keep hb (by omega),h.M.keep hb (by omega),h.hb⟩
theorem ChS.held (h:ChS w wr base B A n c ds Am nm cm ms d i) (hb:jT base B wr w'):ChS w w' base B A n c ds Am nm cm ms d i:=
 ⟨hb.cells _ (Nat.le_refl _) _ _ (by decide) h.V,hb.cells _ (Nat.le_succ _) _ _ (by decide) h.U,h.F.keep hb.low (Nat.le_refl _),h.M.keep hb.low (Nat.le_refl _),h.hb⟩
theorem ChS.files (h:ChS w wr base B A n c ds Am nm cm ms d i):bZ wr wr.heap.size A ds:=h.F.more (by have:=h.lt;have:=h.hb;omega)
theorem ChS.aR (h:ChS w wr base B A n c ds Am nm cm ms d i):AtE EMt wr wr.heap.size Am ms:=h.M.more (by have:=h.lt;have:=h.hb;omega)
theorem ChS.ino (h:ChS w wr base B A n c ds Am nm cm ms d i) (k:Int):ChS w (wr.setCell ⟨B+1,1,none⟩ (.int .i64 k)) base B A n c ds Am nm cm ms d k:=by
 have hb:=h.hb;have hl:=(Below.refl base wr).setCell (p:=⟨B+1,1,none⟩) (by show base≤B+1;omega) (.int .i64 k);exact ⟨h.V.af _ (by show B≠B+1;omega),h.U.put 1 _,h.F.keep hl (Nat.le_refl _),h.M.keep hl (Nat.le_refl _),hb⟩
theorem ChS.dev (h:ChS w wr base B A n c ds Am nm cm ms d i) (k:Int):ChS w (wr.setCell ⟨B+1,0,none⟩ (.int .i64 k)) base B A n c ds Am nm cm ms k i:=by
 have hb:=h.hb;have hl:=(Below.refl base wr).setCell (p:=⟨B+1,0,none⟩) (by show base≤B+1;omega) (.int .i64 k);exact ⟨h.V.af _ (by show B≠B+1;omega),h.U.put 0 _,h.F.keep hl (Nat.le_refl _),h.M.keep hl (Nat.le_refl _),hb⟩
end
attribute [local irreducible] qM yM
theorem yn (n' B base:Nat) (hn1:1≤n') (ds:List Dm) (A:Option Addr) (n c:Nat) (hn:n=ds.length) (ms:List Mt) (Am:Option Addr) (nm cm:Nat) (hnm:nm=ms.length) (hl:nm≤1000) (d0 i0:Int) (l0:List (Int×Int)) (hch:Chn (ds.map Dm.dv) ms l0 d0 i0) (hlen:l0.length≤yM (ds.map Dm.dv)) (w:World) (hS:ChS w w base B A n c ds Am nm cm ms d0 i0):
  Ng Fence.wide n' Tryz.prog 160 #[.pointer (some ⟨B,0,none⟩), .pointer (some ⟨B+1,0,none⟩)] (fun x:Int×Int=>flV x.1 x.2) (fun _=>True) B (B+2) (jT base B)
   (fun xs=>xs=l0) (fun pre=>∃ rest,pre ++ rest=l0) l0.length w:=by
 intro l J Jx W hW hJ hJx hY h0;have S0:=Hd (hS.grow hW);have HN:=Hd hn;have HNM:=Hd hnm;have HL:=Hd hl;have HCH:=Hd hch;have HLEN:=Hd (show l0.length≤qM ds n by rw [hn,AL];exact hlen);clear hS hn hnm hl hch hlen hW;refine callsIn_of_wp Tryz.func160 rfl trivial ?_ rfl;simp only [Tryz.ntmps160,List.size_toArray,List.length_cons,List.length_nil,Nat.reduceAdd,Nat.reduceSub,Array.replicate_succ,Array.replicate_zero,List.push_toArray,List.append_toArray,List.nil_append,List.cons_append];have v0:=S0.o.V.cell 0;refine ja ?_
 gi_wp2
 clear v0
 gi_loopw [4,14] (fun s i wr=>∃ k:Nat,k≤n∧s= .int .i64 (qM ds k:Nat)∧i= .int .i64 (k:Int)∧Hid (Below W.heap.size W wr)) (fun _ i _=>n - (intOf i).toNat)
 case atStart=>exact ⟨0,Nat.zero_le _,by rw [yj];rfl,rfl,Hd (Below.refl _ _)⟩
 case round=>
  obtain ⟨k,hk,rfl,rfl,hbw⟩:=hrel;have oO:=S0.o.F.few;have hn:=HN.o;by_cases hlt:k < n;case pos=>
   have hkl:k < ds.length:=(by omega);have k0:(0:Int)≤(k:Int):=(by omega);have kn:(k:Int) < (n:Int):=(by omega);obtain ⟨ad,rfl,hab,hcx⟩:=(S0.o.grow hbw.o).F.at_ k hkl;obtain ⟨s0,s1⟩:=bO (a:=ad.add (k * 2)) hcx;have HSN:=Hd (ym ds hkl);have HSL:=Hd (show qM ds k+ds[k].xs.length≤1000000 by
    have h1:=yh ds (fun d hd=>(S0.o.F.nodes d hd).2) (k+1);rw [HSN.o] at h1;exact Nat.le_trans h1 (by omega))
   clear hcx;generalize ds[k]=x at *;have hk9:k≤1000000:=(by omega);obtain ⟨w1,w2⟩:=LD HSL.o;obtain ⟨q7,q8⟩:=bq hk9 (Nat.le_refl _);have B1:=Hd (hbw.o.alloc hbw.o.size (.cells #[.int .i64 x.nx, .slice x.A x.xs.length x.c] 142))
   gi_wp2
   clear w1 w2 q7 q8;go_roundw;case rel=>exact ⟨k+1,hlt,by rw [HSN.o,Int.natCast_add],by go_num,B1⟩
   case measure=>exact aN hlt _ rfl
  case neg=>
   obtain rfl:k=n:=(by omega);have kn:¬ (k:Int) < (k:Int):=(by omega);have S1:=Hd (S0.o.grow hbw.o);have HJ1:=hJ [] W wr h0 (fZ hbw.o (by have:=S0.o.lt;omega));have HSA:=Hd (show qM ds k≤1000000 from Nat.le_trans (yh ds (fun d hd=>(S0.o.F.nodes d hd).2) k) (by omega));clear hbw h0 S0 hn oO
   gi_wp2
   refine wpIn_label ?_
   gi_wp2
   generalize hW1:wr=W1 at *;clear hW1
   gi_loopw [25] (fun i wr=>∃ (pre rest:List (Int×Int)) (d e:Int),pre ++ rest=l0∧Hid (Chn (ds.map Dm.dv) ms rest d e)∧i= .int .i64 (pre.length:Nat)∧Hid (ChS w wr base B A k c ds Am nm cm ms d e)∧J pre wr) (fun i _=>l0.length - (intOf i).toNat)
   case atStart=>exact ⟨[],l0,d0,i0,rfl,HCH,rfl,S1,HJ1⟩
   case round=>
    clear HCH S1 HJ1;obtain ⟨pre,rest,d,e,hl0,hch,rfl,S2,hj⟩:=hrel;obtain ⟨nd,hq,hk2,Ni,rest',hr⟩:=hch.o.head;have hlt:pre.length < l0.length:=(by rw [← hl0,hr,List.length_append,List.length_cons];omega);have h9:l0.length≤qM ds k:=HLEN.o;have HKT:=Hd (Nat.lt_of_lt_of_le hlt h9);have kn:(pre.length:Int) < (qM ds k:Int):=(by omega);have HNX:=Hd (show pre ++ [(d,e)] ++ rest' =l0 by rw [← hl0,hr,List.append_assoc];rfl);have v0:=S2.o.V.cell 0;have u0:=S2.o.U.cell 0;have u1:=S2.o.U.cell 1;have HLT:=Hd hlt;have HQ:=Hd hq;have HIN:=Hd Ni;have HK2:=Hd hk2;clear h9 hlt hq Ni hk2
    gi_wp2_with fail
    clear v0 u0 u1;refine ⟨trivial,(callsIn_wide.2 (IU d e ds A k c HN.o _ S2.o.files)).mono ?_⟩;intro en w1 hp;rw [HQ.o] at hp;obtain ⟨A1,c1,rfl,_,hb,_⟩:=hp;have S3:=Hd ((S2.o.grow hb).grow ((Below.refl w1.heap.size w1).alloc (Nat.le_refl _) (.cells (ndC nd (.slice A1 nd.es.length c1)) 145)));have X3:=Hd (Blk.new w1 (ndC nd (.slice A1 nd.es.length c1)) 145);have hj3:J pre (w1.alloc (.cells (ndC nd (.slice A1 nd.es.length c1)) 145)):=hJ pre _ _ hj (fZ (hb.alloc hb.size (.cells (ndC nd (.slice A1 nd.es.length c1)) 145)) (by have:=S2.o.lt;omega));have HBN:=Hd (show B+1 < w1.heap.size from Nat.lt_of_lt_of_le S2.o.lt hb.size);obtain ⟨fn,tmps,assign,body,hy,hR⟩:=hY pre (d,e) _ trivial hj3 HLT.o;clear hb hj3 S2 hj;have u0:=S3.o.U.cell 0;have u1:=S3.o.U.cell 1;have x1:=X3.o.cell 1;have x1' :(w1.alloc (.cells (ndC nd (.slice A1 nd.es.length c1)) 145)).cell? ⟨w1.heap.size,1,none⟩=some (.int .i64 2):=(by rw [← HK2.o];exact x1);clear x1
    gi_wp2
    clear u0 u1 x1' hy;generalize hW3:w1.alloc (.cells (ndC nd (.slice A1 nd.es.length c1)) 145)=W3 at *;clear hW3;refine hR.mono ?_;clear hR;rintro en W4 (⟨rfl,hj4,hh4⟩ | ⟨rfl,LF⟩);case inr=>
     gi_wp2
     rw [Exit.noGoto_ret];refine bodyPost_ret (results_none rfl _ _ _) rfl ?_;exact ⟨⟨_,rfl⟩, .inr ⟨_,⟨rest',HNX.o⟩,LF⟩⟩
    case inl=>
     have S4:=Hd (S3.o.held hh4);have X4:=Hd (hh4.cells _ (by have:=HBN.o;omega) _ _ (by decide) X3.o);clear hh4 S3 X3;have x0:=X4.o.cell 0;have x5:=X4.o.cell 5;by_cases he1:e=1;case neg=>
      have hb1:=(aM (show nd.ino≠1 by rw [HIN.o];exact he1)).2;obtain ⟨nd',r',hq',hr',hl'⟩:=hch.o.AJ he1;rw [HQ.o] at hq';injection hq' with hq';subst hq';have HN2:=Hd (show pre ++ [(d,e)] ++ r' =l0 by rw [← hl0,hl',List.append_assoc];rfl);have HC2:=Hd hr';have S5:=Hd (S4.o.ino nd.par);have hj5:=hJ _ _ _ hj4 (oI (lo:=B) (hi:=B+2) (i:=1) (.int .i64 nd.par) (show B≤B+1 by omega) (show B+1 < B+2 by omega):Mid B (B+2) W4 (W4.setCell ⟨B+1,1,none⟩ (.int .i64 nd.par)));have g1:=S4.o.U.cell 1;have f1:=S4.o.U.free 1;have HPL:=Hd (show ((pre ++ [(d,e)]).length:Nat)=pre.length+1 by simp);obtain ⟨q7,q8⟩:=bq (show pre.length≤1000000 by have:=HKT.o;have:=HSA.o;omega) (Nat.le_refl _);clear hr' hl' he1 hj4
      gi_wp2
      clear q7 q8 g1 f1 hb1;go_roundw;case rel=>exact ⟨pre ++ [(d,e)],r',d,nd.par,HN2.o,HC2,by rw [HPL.o];rfl,S5,hj5⟩
      case measure=>exact aN HLT.o _ rfl
     case pos=>
      have hb1:=(bI (show nd.ino=1 by rw [HIN.o];exact he1)).2;subst he1;have v0:=S4.o.V.cell 0;have v1:=S4.o.V.cell 1;have u0:=S4.o.U.cell 0
      gi_wp2_with fail
      refine ⟨trivial,(callsIn_wide.2 (xZ d (slV A k c) ms Am nm cm HNM.o HL.o _ S4.o.aR)).mono ?_⟩;rintro en w5 ⟨rfl,hb⟩;have S5:=Hd (S4.o.grow hb);have hj5:=hJ _ _ _ hj4 (fZ (lo:=B) (hi:=B+2) hb (by have:=S4.o.lt;omega));clear hb v0 v1 u0 hb1 x0 x5;rcases hch.o.Ev with ⟨rfl,hno,hl'⟩ | ⟨hd0,a,b,r',hon,hr',hl'⟩;case inl=>
       have HXS:=Hd (show pre ++ [(0,1)]=l0 by rw [← hl0,hl']);rw [yg hno];have hj6:=hJ _ _ _ hj5 (fZ (lo:=B) (hi:=B+2) ((Below.refl w5.heap.size w5).alloc (Nat.le_refl _) (.cells #[.int .i64 0, .int .i64 0] 44)) (by have:=S5.o.lt;omega));clear hno hl'
       gi_wp2
       rw [Exit.noGoto_ret];refine bodyPost_ret (results_none rfl _ _ _) rfl ?_;exact ⟨⟨_,rfl⟩, .inl ⟨_,HXS.o,hj6⟩⟩
      case inr=>
       have HN2:=Hd (show pre ++ [(d,1)] ++ r' =l0 by rw [← hl0,hl',List.append_assoc];rfl);have HC2:=Hd hr';rw [yc hon];have b0:=(aM hd0).1;have S6:=Hd (S5.o.grow ((Below.refl w5.heap.size w5).alloc (Nat.le_refl _) (.cells #[.int .i64 a, .int .i64 b] 44)));have hj6:=hJ _ _ _ hj5 (fZ (lo:=B) (hi:=B+2) ((Below.refl w5.heap.size w5).alloc (Nat.le_refl _) (.cells #[.int .i64 a, .int .i64 b] 44)) (by have:=S5.o.lt;omega));have X6:=Hd (Blk.new w5 #[.int .i64 a, .int .i64 b] 44);have S8:=Hd ((S6.o.dev a).ino b);have hj8:=hJ _ _ _ (hJ _ _ _ hj6 (oI (lo:=B) (hi:=B+2) (i:=0) (.int .i64 a) (show B≤B+1 by omega) (show B+1 < B+2 by omega))) (oI (lo:=B) (hi:=B+2) (i:=1) (.int .i64 b) (show B≤B+1 by omega) (show B+1 < B+2 by omega));have HPL:=Hd (show ((pre ++ [(d,(1:Int))]).length:Nat)=pre.length+1 by simp);have g0:=S6.o.U.cell 0;have g1:=S6.o.U.cell 1;have f0:=S6.o.U.free 0;have f1:=S6.o.U.free 1;have z0:=X6.o.cell 0;have z1:=X6.o.cell 1;obtain ⟨q7,q8⟩:=bq (show pre.length≤1000000 by have:=HKT.o;have:=HSA.o;omega) (Nat.le_refl _);clear hr' hl' hd0 hon hj4 hj5 hj6
       gi_wp2
       clear q7 q8 g0 g1 f0 f1 z0 z1 b0;go_roundw;case rel=>exact ⟨pre ++ [(d,1)],r',a,b,HN2.o,HC2,by rw [HPL.o];rfl,S8,hj8⟩
       case measure=>exact aN HLT.o _ rfl
end Go.Proofs.YtollifnnpihfdaaGreatDoor
namespace Go.Proofs.YtollifnnpihfdaaGreatDoor
def jU (f:List Dv) (l:List (Int×Int)):List ByteArray:=(l.filter (fun x=>x.2 != 1)).map (fun x=>dZ f x.1 x.2)
theorem sP (f:List Dv) (d:Int) (l:List (Int×Int)):jU f ((d,1) :: l)=jU f l:=by
 unfold jU;rw [List.filter_cons_of_neg (by simp)]
theorem qy (f:List Dv) {d i:Int} (h:i≠1) (l:List (Int×Int)):jU f ((d,i) :: l)=dZ f d i :: jU f l:=by
 unfold jU;rw [List.filter_cons_of_pos (by simpa using h)];rfl
theorem sQ (f:List Dv) (l k:List (Int×Int)):jU f (l ++ k)=jU f l ++ jU f k:=by
 unfold jU;rw [List.filter_append,List.map_append]
theorem lT.chn {f:List Dv} {ms:List Mt} {h:Nat} {dev ino:Int} {L:List ByteArray} (w:lT f ms h dev ino L):
  ∃ l:List (Int×Int),Chn f ms (l ++ [(0,1)]) dev ino∧(l ++ [(0,1)]).length=h∧(∀ x∈l,x≠(0,1))∧L=(jU f l).reverse:=by
 induction w with
 | top h1 h2=>exact ⟨[], .top h1 h2,rfl,(fun x hx=>by cases hx),rfl⟩
 | @over h dev a b L h1 h2 h3 _ ih=>
  obtain ⟨l,k1,k2,k3,k4⟩:=ih;refine ⟨(dev,1) :: l, .over h1 h2 h3 k1,by simp at k2 ⊢;omega,fun x hx=>?_,by rw [sP];exact k4⟩;rcases List.mem_cons.1 hx with rfl | hx
  · intro e;injection e with e _;exact h2 e
  · exact k3 x hx
 | @step h dev ino n L h1 h2 h3 h4 _ ih=>
  obtain ⟨l,k1,k2,k3,k4⟩:=ih;refine ⟨(dev,ino) :: l, .step h1 h2 h3 k1,by simp at k2 ⊢;omega,fun x hx=>?_,by rw [qy f h3,List.reverse_cons, ← k4]⟩;rcases List.mem_cons.1 hx with rfl | hx
  · intro e;injection e with _ e;exact h3 e
  · exact k3 x hx
open Go.RowKit
variable {F:Fence} {n:Nat} {P:Program}
theorem qD {α:Type} {g:Operand} {ps:Array Tmp} {assign body:Code} {Q:Exit→Act→World→Prop} {a:Act} {w:World}
   (hro:F.round=none) (h1:1≤n) {gf:Nat} {lb:Array Value} (hg:a.eval g= .func (.func gf) #[] lb) (hFg:F.fn gf) (eg:∀ args w,(callFunc gf args).run P w= .ok (.enter gf args) w)
   {enc:α→Value} {G:α→Prop} {S Sp:List α→Prop} {N lo hi:Nat} (hlh:lo≤hi) (hhi:hi≤w.heap.size) (R:World→World→Prop) (hRt:∀ {A B C:World},R A B→R B C→R A C) (hRp:∀ (A:World) (l:Nat) (o o' :Obj),w.heap.size≤l→A.heap[l]? =some o→o.isCells=false→R A (A.putObj l o')) (hseq:Ng F (n - 1) P gf lb enc G lo hi R S Sp N w) (hps:ps.size=1)
   (I:List α→World→Prop) (Ix:Code→List α→World→Prop) (hI:∀ pre A B,I pre A→Mid lo hi A B→I pre B) (hIx:∀ c pre A B,Ix c pre A→Mid lo hi A B→Ix c pre B) (hIp:∀ pre A l o o',I pre A→w.heap.size≤l→A.heap[l]? =some o→o.isCells=false→I pre (A.putObj l o')) (JO:∀ c pre A l o o',Ix c pre A→w.heap.size≤l→A.heap[l]? =some o→o.isCells=false→Ix c pre (A.putObj l o')) (h0:I [] w) (Ax:α→Act→World→Prop) (hAx:∀ x a' A l o o',Ax x a' A→A.heap[l]? =some o→o.isCells=false→Ax x a' (A.putObj l o'))
   (hassign:∀ (l:Nat) (pre:List α) (x:α) (W:World) (K:Act→World→Prop),I pre W→hi≤W.heap.size→(∀ a' W',KeepsOthers W W' →R W W' →I pre W' →Ax x a' W' →K a' W')→
     assign.wpIn (F.inRound l) (n - 1 - 1) P (Exit.then K (fun _ _ _=>False)) { tmps:=(ps.zip #[enc x]).foldl (fun t (p,v)=>t.setIfInBounds p v) a.tmps,defers:= [] } W)
   (hbody:∀ (l:Nat) (pre:List α) (x:α) (a' :Act) (W:World),G x→I pre W→Ax x a' W→(∃ r,W.heap[l]? =some (.loop r))→w.heap.size≤l→hi≤W.heap.size→pre.length < N→body.wpIn (F.inRound l) (n - 1 - 1) P (ownPostK R I Ix (pre ++ [x]) W) a' W)
   (hdone:∀ (D:Nat) (xs:List α) (W:World),w.heap.size≤D→S xs→I xs W→W.heap[D]? =some (.deferred (some []))→Q .normal { a with defers:= { target:= .collected D,args:=#[] } :: a.defers } W)
   (hstop:∀ (D:Nat) (c:Code) (pre:List α) (W:World),w.heap.size≤D→Sp pre→Ix c pre W→W.heap[D]? =some (.deferred (some []))→c.wpIn F n P Q { a with defers:= { target:= .collected D,args:=#[] } :: a.defers } W):
   (Code.rangeFunc g ps assign body).wpIn F n P Q a w:=by
 refine wpIn_rangeFunc fun fn hfn=>?_;rw [hro];generalize hk:w.heap.size=k at *;let JP:LoopState→Option Code→Loop:=fun st pe=> { state:=st,pending:=pe,fn,tmps:=a.tmps,params:=ps,assign,body,defers:=k };obtain ⟨r,hr⟩:∃ r,r=JP:=⟨_,rfl⟩;have e1:=World.alloc_heap_new w (.deferred (some []));have e2:=World.alloc_heap_new (w.alloc (.deferred (some []))) (.loop (r .ready none));have e3:=Below.heap_alloc (w.alloc (.deferred (some []))) (.loop (r .ready none)) k (by simp;omega);have hB:Below k w ((w.alloc (.deferred (some []))).alloc (.loop (r .ready none))):=((Below.refl k w).alloc (by omega) _).alloc (by simp;omega) _;have hrun:=run_enterLoop_outer (P:=P) (w:=w) fn a.tmps ps assign body;rw [World.size_alloc,hk] at e2;rw [hk] at e1 hrun;have e4:((w.alloc (.deferred (some []))).alloc (.loop (r .ready none))).heap[k]? =some (.deferred (some [])):=e3.trans e1;have hrun' :(Instr.enterLoop fn a.tmps ps assign body none).run P w= .ok (k+1, [{ target:= .collected k,args:=#[] }]) ((w.alloc (.deferred (some []))).alloc (.loop (r .ready none))):=by rw [hr];exact hrun
 generalize (w.alloc (.deferred (some []))).alloc (.loop (r .ready none))=W1 at *;refine ⟨k+1,_,W1, { target:= .fn (.func gf) lb,args:=#[.func (.yield (k+1)) #[] #[]] },W1,gf,#[.func (.yield (k+1)) #[] #[]] ++ lb,W1,hrun',?_,?_,?_,fun _=>h1,?_⟩
 · simp only [resolve,hg];simp [go_sem]
 · intro f' hf';simp [Target.leads] at hf';subst hf';exact hFg
 · simp [invoke,go_sem,eg]
 refine (hseq (k+1) (fun pre W=>I pre W∧W.heap[k+1]? =some (.loop (r .ready none))∧W.heap[k]? =some (.deferred (some [])))
   (fun pre W=>∃ c,Ix c pre W∧W.heap[k+1]? =some (.loop (r .done (some c)))∧W.heap[k]? =some (.deferred (some []))) W1 (by rw [hk];exact hB) ?_ ?_ ?_ ⟨hI [] w W1 h0 ⟨hB.mono (by omega),fun b _ hb=>hB.block b (by omega)⟩,e2,e4⟩).mono ?_
 · rintro pre A B ⟨a1,a2,a3⟩ hm;exact ⟨hI pre A B a1 hm,(hm.high (k+1) (by omega) (Array.getElem?_eq_some_iff.1 a2).1).trans a2,(hm.high k (by omega) (Array.getElem?_eq_some_iff.1 a3).1).trans a3⟩
 · rintro pre A B ⟨c,a1,a2,a3⟩ hm;exact ⟨c,hIx c pre A B a1 hm,(hm.high (k+1) (by omega) (Array.getElem?_eq_some_iff.1 a2).1).trans a2,(hm.high k (by omega) (Array.getElem?_eq_some_iff.1 a3).1).trans a3⟩
 · rintro pre x A hGx ⟨a1,a2,a3⟩ hlen;have hlt:k+1 < A.heap.size:=(Array.getElem?_eq_some_iff.1 a2).1;have hy:=run_yield (P:=P) (args:=#[enc x]) a2 (by rw [hr];simp [JP,hps]);have hy' :(Instr.yield (k+1) #[enc x]).run P A= .ok (.round (k+1) fn ((ps.zip #[enc x]).foldl (fun t (p,v)=>t.setIfInBounds p v) a.tmps) assign body) A:=by
     rw [hy,hr]
   refine ⟨fn,_,assign,body,hy',roundIn_of_wpIn hfn (hassign (k+1) pre x A _ a1 (by omega) ?_)⟩;clear hy hy';intro a' Aa hka hra hia hax;replace a2:=hka.same _ _ a2 rfl;replace a3:=hka.same _ _ a3 rfl;replace hlt:k+1 < Aa.heap.size:=(Array.getElem?_eq_some_iff.1 a2).1;have hb:=run_beginRound (P:=P) a2 (by rw [hr]);have p1:(Aa.putObj (k+1) (.loop { r .ready none with state:= .busy })).heap[k+1]? =some (.loop { r .ready none with state:= .busy }):=World.putObj_heap_same hlt;have p2:(Aa.putObj (k+1) (.loop { r .ready none with state:= .busy })).heap[k]? =some (.deferred (some [])):=(World.putObj_heap_other (by omega)).trans a3;have p3:I pre (Aa.putObj (k+1) (.loop { r .ready none with state:= .busy })):=hIp pre Aa _ _ _ hia (by omega) a2 rfl;have p4:R A (Aa.putObj (k+1) (.loop { r .ready none with state:= .busy })):=hRt hra (hRp Aa _ _ _ (by omega) a2 rfl);have p6:Ax x a' (Aa.putObj (k+1) (.loop { r .ready none with state:= .busy })):=hAx x a' Aa _ _ _ hax a2 rfl;have p5:hi≤(Aa.putObj (k+1) (.loop { r .ready none with state:= .busy })).heap.size:=by
     have:=(Array.getElem?_eq_some_iff.1 p1).1;omega
   have q1:({ r .ready none with state:= .busy } :Loop)=r .busy none:=(by rw [hr]);rw [q1] at hb p1 p2 p3 p4 p5 p6;generalize Aa.putObj (k+1) (.loop (r .busy none))=A1 at *;have q2:∀ (jump:Option Code),({ r .busy none with state:=(if jump.isNone then .ready else .done),pending:=jump } :Loop)=r (if jump.isNone then .ready else .done) jump:=fun jump=>by rw [hr]
   have fin:∀ (jump:Option Code) (C:World),KeepsOthers A1 C→(Instr.endRound (k+1) jump).run P C= .ok (.bool jump.isNone) (C.putObj (k+1) (.loop (r (if jump.isNone then .ready else .done) jump)))∧k+1 < C.heap.size∧
      (C.putObj (k+1) (.loop (r (if jump.isNone then .ready else .done) jump))).heap[k+1]? =some (.loop (r (if jump.isNone then .ready else .done) jump))∧
      (C.putObj (k+1) (.loop (r (if jump.isNone then .ready else .done) jump))).heap[k]? =some (.deferred (some []))∧R C (C.putObj (k+1) (.loop (r (if jump.isNone then .ready else .done) jump)))∧C.heap[k+1]? =some (.loop (r .busy none)):=fun jump C hC=>by
     have c1:=hC.same _ _ p1 rfl;have c2:=hC.same _ _ p2 rfl;have c3:=(Array.getElem?_eq_some_iff.1 c1).1;have c4:=run_endRound (P:=P) jump c1;refine ⟨?_,c3,World.putObj_heap_same c3,(World.putObj_heap_other (by omega)).trans c2,hRp C _ _ _ (by omega) c1 rfl,c1⟩;rw [← q2 jump];exact c4
   refine ⟨A1,hb,?_⟩;refine wpIn_mono (hbody (k+1) pre x a' A1 hGx p3 p6 ⟨_,p1⟩ (by omega) p5 hlen) ?_;rintro e a3' C hp;cases e with
   | normal=>
     obtain ⟨b1,b2,b3⟩:=hp;obtain ⟨f1,f2,f3,f4,f5,f6⟩:=fin none C b1;exact ⟨_,_,f1, .inl ⟨rfl,⟨hIp _ C _ _ _ b3 (by omega) f6 rfl,f3,f4⟩,hRt (hRt p4 b2) f5⟩⟩
   | ret=>
     obtain ⟨b1,b3⟩:=hp;obtain ⟨f1,f2,f3,f4,f5,f6⟩:=fin (some .ret) C b1;exact ⟨_,_,f1, .inr ⟨rfl, .ret,JO _ _ C _ _ _ b3 (by omega) f6 rfl,f3,f4⟩⟩
   | exit id=>
     obtain ⟨b1,b3⟩:=hp;obtain ⟨f1,f2,f3,f4,f5,f6⟩:=fin (some (.exit id)) C b1;exact ⟨_,_,f1, .inr ⟨rfl, .exit id,JO _ _ C _ _ _ b3 (by omega) f6 rfl,f3,f4⟩⟩
   | goto t=>
     obtain ⟨b1,b3⟩:=hp;obtain ⟨f1,f2,f3,f4,f5,f6⟩:=fin (some (.goto t)) C b1;exact ⟨_,_,f1, .inr ⟨rfl, .goto t,JO _ _ C _ _ _ b3 (by omega) f6 rfl,f3,f4⟩⟩
   | panic ch=>exact hp.elim
   | outgrown=>exact hp.elim
 · rintro e B ⟨⟨v,rfl⟩,(⟨xs,s1,s2,s3,s4⟩ | ⟨pre,s1,c,s2,s3,s4⟩)⟩
   · have hlt:=(Array.getElem?_eq_some_iff.1 s3).1;have hend:=run_endLoop (P:=P) s3 (by rw [hr];simp [JP]);exact ⟨none,_,by rw [hend,hr],hdone k xs _ (Nat.le_refl _) s1 (hIp _ B _ _ _ s2 (by omega) s3 rfl) ((World.putObj_heap_other (by omega)).trans s4)⟩
   · have hlt:=(Array.getElem?_eq_some_iff.1 s3).1;have hend:=run_endLoop (P:=P) s3 (by rw [hr];simp [JP]);exact ⟨some c,_,by rw [hend,hr],hstop k c pre _ (Nat.le_refl _) s1 (JO _ _ B _ _ _ s2 (by omega) s3 rfl) ((World.putObj_heap_other (by omega)).trans s4)⟩
end Go.Proofs.YtollifnnpihfdaaGreatDoor
namespace Go.Proofs.YtollifnnpihfdaaGreatDoor
open Go.RowKit Go.Shelf
attribute [local go_sem] Oper.semAt_some
def KpB (D:Nat) (g:Option Nat) (A B:World):Prop:=∀ b o,(b=D∨some b=g)→A.heap[b]? =some o→o.isCells=true→B.heap[b]? =some o
theorem KpB.trans {D:Nat} {g:Option Nat} {A B C:World} (h:KpB D g A B) (k:KpB D g B C):KpB D g A C:=fun b o hb ho hc=>k b o hb (h b o hb ho hc) hc
theorem KpB.obj {D:Nat} {g:Option Nat} (W:World) (l:Nat) (o o' :Obj) (h:W.heap[l]? =some o) (ho:o.isCells=false):KpB D g W (W.putObj l o'):=fun b q _ hq hc=>by
 have hne:l≠b:=fun e=>by
  subst e;rw [h] at hq;injection hq with hq;rw [hq] at ho;rw [ho] at hc;cases hc
 exact (World.putObj_heap_other hne.symm).trans hq
theorem KpB.blk {D:Nat} {g:Option Nat} {A B:World} {t:TypeId} {cs:Array Value} (h:KpB D g A B) (k:Blk A D t cs):Blk B D t cs:=h D _ (.inl rfl) k rfl
theorem KpB.strs {D:Nat} {A0:Option Addr} {A B:World} {m m' :Nat} {L:List ByteArray} (h:KpB D (A0.map Addr.block) A B) (k:bD A m A0 L) (hm:m≤m'):bD B m' A0 L:=fun j hj=>by
 obtain ⟨ad,e,hl,hc⟩:=k j hj;refine ⟨ad,e,by omega,?_⟩;have hb:(ad.add j).block=ad.block:=iE ad j;have hk:=h ad.block;obtain ⟨o,ho,hoc⟩:=cells_of_cell hc;rw [hb] at ho;have:=hk o (.inr (by rw [e];rfl)) ho hoc;rw [← hc];exact World.cell?_of_block (by rw [hb,this,ho])
theorem IX (A:Option Addr) (n c:Nat) (w:World):Calls Tryz.prog 98 #[.slice A n c] w fun e w' =>e= .returned (.func (.func 161) #[] #[.pointer (some ⟨w.heap.size,0,none⟩)])∧w' =w.alloc (.cells #[.slice A n c] 49):=by
 go_in
 go_wp2
 go_ret;exact ⟨rfl,rfl⟩
theorem AO {L:List ByteArray} {k:Nat} (hk:k < L.length):(L.drop k).reverse=(L.drop (k+1)).reverse ++ [L[k]]:=by
 rw [List.drop_eq_getElem_cons hk,List.reverse_cons]
abbrev BkS:Type:= { x:Int×ByteArray // x.2.size≤12 }
def bkT (xs:List BkS):List ByteArray:=xs.map (fun x=>x.1.2)
theorem yo (xs ys:List BkS):bkT (xs ++ ys)=bkT xs ++ bkT ys:=List.map_append
theorem yt (xs:List BkS):∀ s∈bkT xs,s.size≤12:=fun s hs=>by
 obtain ⟨x,_,rfl⟩:=List.mem_map.1 hs;exact x.2
theorem AP (n' D:Nat) (hn1:1≤n') (A:Option Addr) (n c:Nat) (L:List ByteArray) (hn:n=L.length) (hl:n≤1000000) (hsm:∀ s∈L,s.size≤12) (m:Nat) (w:World) (hD:Blk w D 49 #[.slice A n c]) (hm:m≤w.heap.size) (hA:bD w m A L):
  SeqStopsK Fence.wide n' Tryz.prog 161 #[.pointer (some ⟨D,0,none⟩)] (fun x:BkS=>#[.int .i64 x.1.1, .string x.1.2]) (KpB D (A.map Addr.block))
   (fun xs=>bkT xs=L.reverse) (fun _=>True) n w:=by
 intro l J Jx W hW hJ hJx hY h0;have D0:=Hd (hD.below hW);have A0:=Hd (hA.keep hW (by omega));have HN:=Hd hn;have HL:=Hd hl;have HSM:=Hd hsm;clear hD hA hn hl hm hW hsm;refine callsIn_of_wp Tryz.func161 rfl trivial ?_ rfl;simp only [Tryz.ntmps161,List.size_toArray,List.length_cons,List.length_nil,Nat.reduceAdd,Nat.reduceSub,Array.replicate_succ,Array.replicate_zero,List.push_toArray,List.append_toArray,List.nil_append,List.cons_append];have v0:=D0.o.cell 0;have q0:wrap64 ((n:Int) - 1)=(n:Int) - 1:=IntWalk.wrap64_in _ (by have:=HL.o;omega);have q1:IntKind.i64.wrap ((n:Int) - 1)=(n:Int) - 1:=IntWalk.i64_in _ (by have:=HL.o;omega)
 gi_wp2
 clear v0 q0 q1
 gi_loopw [3] (fun i wr=>∃ (k:Nat) (pre:List BkS),k≤n∧pre.length+k=n∧i= .int .i64 ((k:Int) - 1)∧bkT pre=(L.drop k).reverse∧Hid (Blk wr D 49 #[.slice A n c])∧Hid (bD wr m A L)∧J pre wr) (fun i _=>(intOf i+1).toNat)
 case atStart=>exact ⟨n, [],Nat.le_refl _,by simp,rfl,by rw [HN.o];simp [bkT],D0,A0,h0⟩
 case round=>
  obtain ⟨k,pre,hk,hp,rfl,hpm,hD,hA,hj⟩:=hrel;cases k with
  | zero=>
   have kn:¬ (0:Int)≤((0:Nat):Int) - 1:=by omega
   gi_wp2
   refine bodyPost_end (results_none rfl _ _ _) rfl ?_;exact ⟨⟨_,rfl⟩, .inl ⟨pre,by rw [hpm];rfl,hj⟩⟩
  | succ k=>
   rw [show ((k+1:Nat):Int) - 1=(k:Int) by omega];have kn:(0:Int)≤(k:Int):=(by omega);have hkn:k < n:=(by omega);have hkl:k < L.length:=(by rw [← HN.o];exact hkn);have knn:(k:Int) < (n:Int):=(by omega);have v0:=hD.o.cell 0;obtain ⟨ad,rfl,hab,hcx⟩:=hA.o k hkl;have Hm:L[k].size≤12:=HSM.o _ (List.getElem_mem hkl);obtain ⟨fn,tmps,assign,body,hy,hR⟩:=hY pre ⟨((k:Int),L[k]),Hm⟩ wr hj (by omega);have HDR:=Hd (AO hkl);have HPM:=Hd hpm;have q0:wrap64 ((k:Int) - 1)=(k:Int) - 1:=IntWalk.wrap64_in _ (by have:=HL.o;omega);have q1:IntKind.i64.wrap ((k:Int) - 1)=(k:Int) - 1:=IntWalk.i64_in _ (by have:=HL.o;omega);generalize hx:L[k]=x at *
   gi_wp2_with fail
   clear v0 hcx hy;refine hR.mono ?_;clear hR;rintro en W4 (⟨rfl,hj4,hh4⟩ | ⟨rfl,LF⟩);case inr=>
    gi_wp2
    refine bodyPost_ret (results_none rfl _ _ _) rfl ?_;exact ⟨⟨_,rfl⟩, .inr ⟨_,trivial,LF⟩⟩
   case inl=>
    have D4:=Hd (hh4.blk hD.o);have A4:=Hd (hh4.strs hA.o (Nat.le_refl _))
    gi_wp2
    go_roundw;case rel=>exact ⟨k,pre ++ [⟨((k:Int),x),Hm⟩],by omega,by rw [List.length_append];simp;omega,rfl,by rw [yo,HPM.o,HDR.o];rfl,D4,A4,hj4⟩
    case measure=>show ((k:Int) - 1+1).toNat < ((k:Int)+1).toNat;omega
end Go.Proofs.YtollifnnpihfdaaGreatDoor
