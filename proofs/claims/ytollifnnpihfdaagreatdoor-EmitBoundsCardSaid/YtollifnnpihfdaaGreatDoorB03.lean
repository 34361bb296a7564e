import Derived.Test.YtollifnnpihfdaaGreatDoorB02
set_option maxRecDepth 100000
set_option maxHeartbeats 64000000
set_option linter.all false
namespace Go.Proofs.YtollifnnpihfdaaGreatDoor
open Go.RowKit
abbrev fsV (A:Option Addr) (n c:Nat):Value:= .agg #[.slice A n c]
abbrev flV (dev ino:Int):Value:= .agg #[.int .i64 dev, .int .i64 ino]
theorem kR (dev ino:Int) (ds:List Dm) (A:Option Addr) (n c:Nat) (hn:n=ds.length) (w:World) (h:bZ w w.heap.size A ds):
   Calls Tryz.prog 117 #[fsV A n c,flV dev ino] w fun e w' =>e= .returned (.int .i64 (Fh (fD (ds.map Dm.dv) dev ino)))∧Below w.heap.size w w' :=by
 have HN:=Hd hn;have HB:=Hd (show Below w.heap.size w ((w.alloc (.cells #[.slice A n c] 28)).alloc (.cells #[.int .i64 dev, .int .i64 ino] 44)) from ((Below.refl w.heap.size w).alloc (Nat.le_refl _) _).alloc (by simp) _);have HF:=Hd (h.below HB.o);have HW:=Hd h.few;clear h hn;by_cases h0:dev < 0
 · have HR:=Hd (show fD (ds.map Dm.dv) dev ino=none by unfold fD;rw [ji (.inl h0)];rfl);go_in;go_wp2_with fail;go_ret;exact ⟨by rw [HR.o];rfl,HB.o⟩
 have h0' :¬ dev < 0:=h0;by_cases h1:(n:Int)≤dev
 · have HR:=Hd (show fD (ds.map Dm.dv) dev ino=none by unfold fD;rw [ji (.inr (by rw [← HN.o];exact h1))];rfl);go_in;go_wp2_with fail;go_ret;exact ⟨by rw [HR.o];rfl,HB.o⟩
 obtain ⟨k,rfl⟩:∃ k:Nat,dev=k:=⟨dev.toNat,by omega⟩;have hk:k < ds.length:=by rw [← HN.o];omega
 have k1:(k:Int) < (n:Int):=by omega
 have k2:(0:Int)≤(k:Int):=by omega
 have HI:=Hd (show fD (ds.map Dm.dv) (k:Int) ino=jh (ds[k].xs.map (·.nd)) ino by
   unfold fD;rw [dJ (by omega) (by rw [Int.toNat_natCast];exact hk)];rfl)
 have HD:=Hd (HF.o.nodes ds[k] (List.getElem_mem hk));obtain ⟨ad,rfl,hab,hcx⟩:=HF.o.at_ k hk;obtain ⟨s0,s1⟩:=bO (a:=ad.add (k * 2)) hcx;clear hcx h0 h1;generalize ds[k]=d at *;go_in;go_wp2_with fail;generalize hW:(w.alloc (.cells #[.slice (some ad) n c] 28)).alloc (.cells #[.int .i64 (k:Int), .int .i64 ino] 44)=W at *;have q1:W.cell? ⟨w.heap.size+1,1,none⟩=some (.int .i64 ino):=by
   rw [← hW];have:=(Blk.new (w.alloc (.cells #[.slice (some ad) n c] 28)) #[.int .i64 (k:Int), .int .i64 ino] 44).cell 1;simpa using this
 clear hW s0 s1;go_loopw [6] (fun i wr=>∃ j t:Nat,j≤d.xs.length∧i= .int .i64 j∧wr=W.drewN t∧∀ q (hq:q < j) (hl:q < d.xs.length),(d.xs[q].nd.ino == ino)=false) (fun i _=>d.xs.length - (intOf i).toNat);case atStart=>exact ⟨0,0,Nat.zero_le _,rfl,rfl,fun q hq=>by omega⟩
 case round=>
   obtain ⟨j,t,hj,rfl,rfl,hno⟩:=hrel;have HNO:=Hd hno;clear hno;by_cases hlt:j < d.xs.length
   · have j1:(j:Int) < (d.xs.length:Int):=(by omega);have j2:(0:Int)≤(j:Int):=(by omega);have j3:=HD.o.2;have w1:wrap64 ((j:Int)+1)=(j:Int)+1:=IntWalk.wrap64_in _ (by omega);have w2:IntKind.i64.wrap ((j:Int)+1)=(j:Int)+1:=IntWalk.i64_in _ (by omega);obtain ⟨bd,hbd,hbb,hcy⟩:=HD.o.1 j hlt;obtain ⟨t0,t1⟩:=dh (a:=bd.add (j * 8)) hcy;have HX:=Hd (fun h:(d.xs[j].nd.ino == ino)=true=>uN (l:=d.xs.map (·.nd)) (ino:=ino) (k:=j) (by simpa using hlt) (fun q hq=>by simpa using HNO.o q hq (by omega)) (by simpa using h));have HY:=Hd (fun h:(d.xs[j].nd.ino == ino)=false=>show ∀ q (hq:q < j+1) (hl:q < d.xs.length),(d.xs[q].nd.ino == ino)=false from fun q hq hl=>by
      by_cases he:q=j
      · subst he;exact h
      · exact HNO.o q (by omega) hl)
     clear hcy t1 HNO;generalize d.xs[j]=x at *;rw [hbd];cases hb:(x.nd.ino == ino) with
     | true=>
      have HR:=Hd (HX.o hb);go_upto_region 7 with fail;go_quiet (fail);go_wp2_with fail;go_ret;exact ⟨by rw [HI.o,HR.o];rfl,below_drewN (below_drewN HB.o _) _⟩
     | false=>
      have HR:=Hd (HY.o hb);go_upto_region 7 with fail;go_quiet (fail);go_wp2_with fail;go_roundw;case rel=>exact ⟨j+1,_,by omega,by go_num,rfl,HR.o⟩
      case measure=>simp [intOf];omega
   · have j1:¬ (j:Int) < (d.xs.length:Int):=(by omega);have HR:=Hd (show jh (d.xs.map (·.nd)) ino=none from uM (fun q hq=>by simpa using HNO.o q (by simp at hq;omega) (by simpa using hq)));go_wp2_with fail;go_ret;exact ⟨by rw [HI.o,HR.o];rfl,below_drewN HB.o _⟩
theorem gY (n:Nd) (v:Value):(Tryz.prog.info? 145).map (·.size)=some (ndC n v).size:=by show _=some 8;kernel_rfl
theorem fF (n:Nd) (A:Option Addr) (k c:Nat):(ndC n (.slice A k c)).all (·.oneCell')=true:=by simp [Value.oneCell']
abbrev ndZ:Array Value:=#[.int .i64 0, .int .i64 0, .int .i64 0, .int .i64 0, .int .i64 0, .int .i64 0, .string ⟨#[]⟩, .slice none 0 0]
def kF (o:Option Nd) (w:World) (e:Ending) (w' :World):Prop:=
 match o with
 | some n=>∃ (A:Option Addr) (c:Nat),e= .returned (.tuple #[.agg (ndC n (.slice A n.es.length c)), .bool true])∧ax EEn w' w.heap.size (.slice A n.es.length c) n.es∧Below w.heap.size w w' ∧jg n
 | none=>e= .returned (.tuple #[.agg ndZ, .bool false])∧Below w.heap.size w w'
theorem nD {fn:Func} {i j:Nat} (h:fn.results=#[.cell i 145, .tmp j]) (tmps:Array Value) (w:World) (g:Nat) (n:Nd) (v:Value) (hp:tmps.getD i undef= .pointer (some ⟨g,0,none⟩)) (hg:Blk w g 145 (ndC n v)):
  (results fn tmps).run Tryz.prog w= .ok (.tuple #[.agg (ndC n v),tmps.getD j undef]) w:=by
 have hp' :tmps[i]?.getD undef= .pointer (some ⟨g,0,none⟩):=by simpa using hp
 simp [results,h,hp',asAddr,run_loadVar_row w g 145 145 (ndC n v) (0,0) _ hg Tryz.underlying145 rfl (gY n v)]
theorem dR {ds:List Dm} {dev ino:Int} {k:Nat} (h:fD (ds.map Dm.dv) dev ino=some k):∃ (j:Nat) (hj:j < ds.length) (hk:k < ds[j].xs.length),dev=(j:Int)∧aD (ds.map Dm.dv) dev ino=some (ds[j].xs[k].nd):=by
 unfold fD at h;cases hd:fA (ds.map Dm.dv) dev with
 | none=>rw [hd] at h;cases h
 | some d=>
  rw [hd] at h;have hd' :=hd;unfold fA at hd';split at hd'
  · cases hd'
  · rw [List.getElem?_map] at hd';obtain ⟨dm,e1,e2⟩:=Option.map_eq_some_iff.1 hd';obtain ⟨hj,e3⟩:=List.getElem?_eq_some_iff.1 e1;have hi:jh d.ns ino=some k:=h;obtain ⟨hk,hf⟩:=yR hi;subst e2;subst e3;refine ⟨dev.toNat,hj,by simpa [Dm.dv] using hk,by omega,?_⟩;unfold aD;rw [hd];show List.find? _ _=_;rw [hf];simp [Dm.dv]
theorem yT {f:List Dv} {dev ino:Int} (h:fD f dev ino=none):aD f dev ino=none:=by
 unfold fD at h;unfold aD;cases hd:fA f dev with
 | none=>rfl
 | some d=>
  rw [hd] at h;exact yS h
theorem bQ (dev ino:Int) (ds:List Dm) (A:Option Addr) (n c:Nat) (hn:n=ds.length) (w:World) (h:bZ w w.heap.size A ds):
  Calls Tryz.prog 70 #[fsV A n c,flV dev ino] w (kF (aD (ds.map Dm.dv) dev ino) w):=by
 have HN:=Hd hn;have hs1:(w.alloc (.cells #[.slice A n c] 28)).heap.size=w.heap.size+1:=by simp
 have hs2:((w.alloc (.cells #[.slice A n c] 28)).alloc (.cells #[.int .i64 dev, .int .i64 ino] 44)).heap.size=w.heap.size+1+1:=by simp
 have B0:=Hd (show Below w.heap.size w (((w.alloc (.cells #[.slice A n c] 28)).alloc (.cells #[.int .i64 dev, .int .i64 ino] 44)).alloc (.cells ndZ 145)) from
  (((Below.refl w.heap.size w).alloc (Nat.le_refl _) _).alloc (by rw [hs1];omega) _).alloc (by rw [hs2];omega) _)
 have F0:=Hd (h.below B0.o);have R0:=Hd (show Blk (((w.alloc (.cells #[.slice A n c] 28)).alloc (.cells #[.int .i64 dev, .int .i64 ino] 44)).alloc (.cells ndZ 145)) (w.heap.size+1+1) 145 ndZ by
  have h:=Blk.new ((w.alloc (.cells #[.slice A n c] 28)).alloc (.cells #[.int .i64 dev, .int .i64 ino] 44)) ndZ 145;rw [hs2] at h;exact h)
 have V0:=Hd (((Blk.new w #[.slice A n c] 28).alloc (.cells #[.int .i64 dev, .int .i64 ino] 44)).alloc (.cells ndZ 145));have U0:=Hd (show Blk (((w.alloc (.cells #[.slice A n c] 28)).alloc (.cells #[.int .i64 dev, .int .i64 ino] 44)).alloc (.cells ndZ 145)) (w.heap.size+1) 44 #[.int .i64 dev, .int .i64 ino] by
  have h:=(Blk.new (w.alloc (.cells #[.slice A n c] 28)) #[.int .i64 dev, .int .i64 ino] 44).alloc (.cells ndZ 145);rw [hs1] at h;exact h)
 clear h hn hs1 hs2;go_in;go_wp2_with fail;generalize (((w.alloc (.cells #[.slice A n c] 28)).alloc (.cells #[.int .i64 dev, .int .i64 ino] 44)).alloc (.cells ndZ 145))=w1 at *;refine (kR dev ino ds A n c HN.o w1 F0.o).mono ?_;rintro e w2 ⟨rfl,hb2⟩;have B2:=Hd (B0.o.trans (hb2.mono B0.o.size));have F2:=Hd (F0.o.below hb2);have R2:=Hd (R0.o.below hb2);have V2:=Hd (V0.o.below hb2);have U2:=Hd (U0.o.below hb2);clear hb2 B0 F0 R0 V0 U0;cases hi:fD (ds.map Dm.dv) dev ino with
 | none=>
  have HR:=Hd (yT hi);have i1:Fh none < 0:=by decide
  clear hi;go_wp2_with ((with_reducible refine ae ?_ 145 (.tmp 4) (.tmp 13) ?_ R2.o ndZ ?_ ?_ ?_ ?_ ?_ ?_);(iterate 4 rfl);(exact gY zNd _);rfl;(exact fF zNd _ _ _));refine bodyPost_ret (nD (fn:=Tryz.f70) rfl _ _ (w.heap.size+1+1) zNd (.slice none 0 0) rfl (Blk.row R2.o _)) rfl ?_;rw [HR.o];exact ⟨rfl,ai B2.o (by omega) _⟩
 | some k=>
  obtain ⟨j,hj,hk,rfl,hnd⟩:=dR hi;have HR:=Hd hnd;have j1:(j:Int) < (n:Int):=by rw [HN.o];omega
  have j2:(0:Int)≤(j:Int):=by omega
  have k2:(0:Int)≤(k:Int):=by omega
  have k1:(k:Int) < (ds[j].xs.length:Int):=by omega
  have i1:Fh (some k)=(k:Int):=rfl;have i2:¬ (k:Int) < 0:=by omega
  have HD:=Hd (F2.o.nodes ds[j] (List.getElem_mem hj));have HE:=Hd (F2.o.cu ds[j] (List.getElem_mem hj) ds[j].xs[k] (List.getElem_mem hk));obtain ⟨ad,rfl,hab,hcx⟩:=F2.o.at_ j hj;obtain ⟨s0,s1⟩:=bO (a:=ad.add (j * 2)) hcx;obtain ⟨bd,hbd,hbb,hcy⟩:=HD.o.1 k hk;obtain ⟨t0,t1,t2,t3,t4,t5,t6,t7⟩:=dh (a:=bd.add (k * 8)) hcy;have v0:=V2.o.cell 0;have u0:=U2.o.cell 0;have u1:=U2.o.cell 1;rw [i1];clear hcx hcy hi hnd i1 HD;generalize ds[j]=d at *;generalize d.xs[k]=x at *;rw [hbd] at s1;have X2:=Hd (Blk.new w2 (ndC x.nd (.slice x.A x.nd.es.length x.c)) 145);have R3:=Hd (R2.o.alloc (.cells (ndC x.nd (.slice x.A x.nd.es.length x.c)) 145));have B3:=Hd (B2.o.alloc B2.o.size (.cells (ndC x.nd (.slice x.A x.nd.es.length x.c)) 145));have HE3:=Hd (show AtE EEn (w2.alloc (.cells (ndC x.nd (.slice x.A x.nd.es.length x.c)) 145)) w2.heap.size x.A x.nd.es from HE.o.1.keep ((Below.refl w2.heap.size w2).alloc (Nat.le_refl _) _) (Nat.le_refl _));have HL:=Hd HE.o.2.1;have HSZ:=Hd HE.o.2;have HLT:=Hd (show w.heap.size+1+1 < w2.heap.size from R2.o.lt);clear F2 HE V2 U2 R2 B2;have hs3:(w2.alloc (.cells (ndC x.nd (.slice x.A x.nd.es.length x.c)) 145)).heap.size=w2.heap.size+1:=by simp
  have hr2:=R3.o.lt;have hx2:=X2.o.lt;have hrx:w.heap.size+1+1 < w2.heap.size:=by
   have:=j1;exact HLT.o
  go_upto_region 5 with fail;generalize w2.alloc (.cells (ndC x.nd (.slice x.A x.nd.es.length x.c)) 145)=w3 at *;have x7:=X2.o.cell 7;go_wp2_with (refine aj EEn rfl (.const (.slice none 0 0)) (.tmp 25) rfl w.heap.size (.slice none 0 0) [] rfl (ax.nil _ _) w2.heap.size x.A x.nd.es.length x.c x.nd.es rfl rfl HE3.o (by simp;have:=HL.o;omega) B3.o.size ?_);intro v6 w6 ho6 hg6 iR;clear x7;have ho6:ax EEn w6 w.heap.size v6 x.nd.es:=ho6;have hne:∀ g,g < w3.heap.size→v6.ownBlock≠some g:=fun g hg e=>by
   rcases iR with h | h
   · rw [h] at e;cases e
   · rw [h] at e;injection e with e;omega
  have X6:=Hd (X2.o.grown hg6 (by simp [Value.ownBlock]));have R6:=Hd (R3.o.grown hg6 (by simp [Value.ownBlock]));have B6:=Hd (B3.o.grown hg6 B3.o.size (fun k e=>by simp [Value.ownBlock] at e));obtain ⟨A6,c6,rfl,_⟩:=ho6.at;have XP:=Hd (show Blk (w6.setCell ⟨w2.heap.size,7,none⟩ (.slice A6 x.nd.es.length c6)) w2.heap.size 145 (ndC x.nd (.slice A6 x.nd.es.length c6)) from X6.o.put 7 _);have RP:=Hd (R6.o.af (p:=⟨w2.heap.size,7,none⟩) (.slice A6 x.nd.es.length c6) (by show w.heap.size+1+1≠w2.heap.size;omega));have HO:=Hd (((ho6.bH (g:=w2.heap.size) (i:=7) (hne _ hx2) (.slice A6 x.nd.es.length c6))).uL (g:=w.heap.size+1+1) (hne _ (by omega)) (ndC x.nd (.slice A6 x.nd.es.length c6)));have BP:=Hd (ai (B6.o.setCell (p:=⟨w2.heap.size,7,none⟩) (by show w.heap.size≤w2.heap.size;omega) (.slice A6 x.nd.es.length c6)) (g:=w.heap.size+1+1) (by omega) (ndC x.nd (.slice A6 x.nd.es.length c6)));have x7:=X6.o.cell 7;have y7:=X6.o.free 7;clear ho6 hg6 iR hne;go_wp2_with (first | ((with_reducible refine az ?_ 145 (.tmp 7) ?_ XP.o ?_ _ Tryz.underlying145 ?_ ?_ ?_);(iterate 4 rfl);exact gY _ _) | ((with_reducible refine ae ?_ 145 (.tmp 4) (.tmp 28) ?_ RP.o (ndC x.nd (.slice A6 x.nd.es.length c6)) ?_ ?_ ?_ ?_ ?_ ?_);(iterate 4 rfl);(exact gY _ _);rfl;(exact fF _ _ _ _)));refine bodyPost_ret (nD (fn:=Tryz.f70) rfl _ _ (w.heap.size+1+1) x.nd (.slice A6 x.nd.es.length c6) rfl (Blk.row RP.o _)) rfl ?_;rw [HR.o];exact ⟨A6,c6,rfl,HO.o,BP.o,HSZ.o⟩
end Go.Proofs.YtollifnnpihfdaaGreatDoor
