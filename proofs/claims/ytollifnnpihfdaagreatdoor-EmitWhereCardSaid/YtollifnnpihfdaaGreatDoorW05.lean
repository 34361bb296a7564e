import Derived.Test.YtollifnnpihfdaaGreatDoorW04
set_option maxRecDepth 100000
set_option maxHeartbeats 64000000
set_option linter.all false
namespace Go.Proofs.YtollifnnpihfdaaGreatDoor
open Go.RowKit
theorem gB (n:Nd) (v:Value):(Tryz.prog.info? 145).map (·.size)=some (ndC n v).size:=by show _=some 8;kernel_rfl
theorem eX (n:Nd) (A:Option Addr) (k c:Nat):(ndC n (.slice A k c)).all (·.oneCell')=true:=by simp [Value.oneCell']
abbrev ndZ:Array Value:=#[.int .i64 0, .int .i64 0, .int .i64 0, .int .i64 0, .int .i64 0, .int .i64 0, .string ⟨#[]⟩, .slice none 0 0]
def jN (o:Option Nd) (w:World) (e:Ending) (w' :World):Prop:=
 match o with
 | some n=>∃ (A:Option Addr) (c:Nat),e= .returned (.tuple #[.agg (ndC n (.slice A n.es.length c)), .bool true])∧ax EEn w' w.heap.size (.slice A n.es.length c) n.es∧Below w.heap.size w w' ∧iJ n
 | none=>e= .returned (.tuple #[.agg ndZ, .bool false])∧Below w.heap.size w w'
theorem l6 {fn:Func} {i j:Nat} (h:fn.results=#[.cell i 145, .tmp j]) (tmps:Array Value) (w:World) (g:Nat) (n:Nd) (v:Value) (hp:tmps.getD i undef= .pointer (some ⟨g,0,none⟩)) (hg:Blk w g 145 (ndC n v)):
  (results fn tmps).run Tryz.prog w= .ok (.tuple #[.agg (ndC n v),tmps.getD j undef]) w:=by
 have hp' :tmps[i]?.getD undef= .pointer (some ⟨g,0,none⟩):=by simpa using hp
 simp [results,h,hp',asAddr,run_loadVar_row w g 145 145 (ndC n v) (0,0) _ hg Tryz.underlying145 rfl (gB n v)]
theorem dL {ds:List Dm} {dev ino:Int} {k:Nat} (h:eT (ds.map Dm.dv) dev ino=some k):∃ (j:Nat) (hj:j < ds.length) (hk:k < ds[j].xs.length),dev=(j:Int)∧aF (ds.map Dm.dv) dev ino=some (ds[j].xs[k].nd):=by
 unfold eT at h;cases hd:eQ (ds.map Dm.dv) dev with
 | none=>rw [hd] at h;cases h
 | some d=>
  rw [hd] at h;have hd' :=hd;unfold eQ at hd';split at hd'
  · cases hd'
  · rw [List.getElem?_map] at hd';obtain ⟨dm,e1,e2⟩:=Option.map_eq_some_iff.1 hd';obtain ⟨hj,e3⟩:=List.getElem?_eq_some_iff.1 e1;have hi:iK d.ns ino=some k:=h;obtain ⟨hk,hf⟩:=wT hi;subst e2;subst e3;refine ⟨dev.toNat,hj,by simpa [Dm.dv] using hk,by omega,?_⟩;unfold aF;rw [hd];show List.find? _ _=_;rw [hf];simp [Dm.dv]
theorem wV {f:List Dv} {dev ino:Int} (h:eT f dev ino=none):aF f dev ino=none:=by
 unfold eT at h;unfold aF;cases hd:eQ f dev with
 | none=>rfl
 | some d=>
  rw [hd] at h;exact wU h
theorem bM (dev ino:Int) (ds:List Dm) (A:Option Addr) (n c:Nat) (hn:n=ds.length) (w:World) (h:bV w w.heap.size A ds):
  Calls Tryz.prog 70 #[fsV A n c,flV dev ino] w (jN (aF (ds.map Dm.dv) dev ino) w):=by
 have HN:=Hd hn;have hs1:(w.alloc (.cells #[.slice A n c] 28)).heap.size=w.heap.size+1:=by simp
 have hs2:((w.alloc (.cells #[.slice A n c] 28)).alloc (.cells #[.int .i64 dev, .int .i64 ino] 44)).heap.size=w.heap.size+1+1:=by simp
 have B0:=Hd (show Below w.heap.size w (((w.alloc (.cells #[.slice A n c] 28)).alloc (.cells #[.int .i64 dev, .int .i64 ino] 44)).alloc (.cells ndZ 145)) from
  (((Below.refl w.heap.size w).alloc (Nat.le_refl _) _).alloc (by rw [hs1];omega) _).alloc (by rw [hs2];omega) _)
 have F0:=Hd (h.below B0.o);have R0:=Hd (show Blk (((w.alloc (.cells #[.slice A n c] 28)).alloc (.cells #[.int .i64 dev, .int .i64 ino] 44)).alloc (.cells ndZ 145)) (w.heap.size+1+1) 145 ndZ by
  have h:=Blk.new ((w.alloc (.cells #[.slice A n c] 28)).alloc (.cells #[.int .i64 dev, .int .i64 ino] 44)) ndZ 145;rw [hs2] at h;exact h)
 have V0:=Hd (((Blk.new w #[.slice A n c] 28).alloc (.cells #[.int .i64 dev, .int .i64 ino] 44)).alloc (.cells ndZ 145));have U0:=Hd (show Blk (((w.alloc (.cells #[.slice A n c] 28)).alloc (.cells #[.int .i64 dev, .int .i64 ino] 44)).alloc (.cells ndZ 145)) (w.heap.size+1) 44 #[.int .i64 dev, .int .i64 ino] by
  have h:=(Blk.new (w.alloc (.cells #[.slice A n c] 28)) #[.int .i64 dev, .int .i64 ino] 44).alloc (.cells ndZ 145);rw [hs1] at h;exact h)
 clear h hn hs1 hs2;go_in;go_wp2_with fail;generalize (((w.alloc (.cells #[.slice A n c] 28)).alloc (.cells #[.int .i64 dev, .int .i64 ino] 44)).alloc (.cells ndZ 145))=w1 at *;refine (jX dev ino ds A n c HN.o w1 F0.o).mono ?_;rintro e w2 ⟨rfl,hb2⟩;have B2:=Hd (B0.o.trans (hb2.mono B0.o.size));have F2:=Hd (F0.o.below hb2);have R2:=Hd (R0.o.below hb2);have V2:=Hd (V0.o.below hb2);have U2:=Hd (U0.o.below hb2);clear hb2 B0 F0 R0 V0 U0;cases hi:eT (ds.map Dm.dv) dev ino with
 | none=>
  have HR:=Hd (wV hi);have i1:Di none < 0:=by decide
  clear hi;go_wp2_with ((with_reducible refine ae ?_ 145 (.tmp 4) (.tmp 13) ?_ R2.o ndZ ?_ ?_ ?_ ?_ ?_ ?_);(iterate 4 rfl);(exact gB zNd _);rfl;(exact eX zNd _ _ _));refine bodyPost_ret (l6 (fn:=Tryz.f70) rfl _ _ (w.heap.size+1+1) zNd (.slice none 0 0) rfl (Blk.row R2.o _)) rfl ?_;rw [HR.o];exact ⟨rfl,ai B2.o (by omega) _⟩
 | some k=>
  obtain ⟨j,hj,hk,rfl,hnd⟩:=dL hi;have HR:=Hd hnd;have j1:(j:Int) < (n:Int):=by rw [HN.o];omega
  have j2:(0:Int)≤(j:Int):=by omega
  have k2:(0:Int)≤(k:Int):=by omega
  have k1:(k:Int) < (ds[j].xs.length:Int):=by omega
  have i1:Di (some k)=(k:Int):=rfl;have i2:¬ (k:Int) < 0:=by omega
  have HD:=Hd (F2.o.nodes ds[j] (List.getElem_mem hj));have HE:=Hd (F2.o.bW ds[j] (List.getElem_mem hj) ds[j].xs[k] (List.getElem_mem hk));obtain ⟨ad,rfl,hab,hcx⟩:=F2.o.at_ j hj;obtain ⟨s0,s1⟩:=bK (a:=ad.add (j * 2)) hcx;obtain ⟨bd,hbd,hbb,hcy⟩:=HD.o.1 k hk;obtain ⟨t0,t1,t2,t3,t4,t5,t6,t7⟩:=cK (a:=bd.add (k * 8)) hcy;have v0:=V2.o.cell 0;have u0:=U2.o.cell 0;have u1:=U2.o.cell 1;rw [i1];clear hcx hcy hi hnd i1 HD;generalize ds[j]=d at *;generalize d.xs[k]=x at *;rw [hbd] at s1;have X2:=Hd (Blk.new w2 (ndC x.nd (.slice x.A x.nd.es.length x.c)) 145);have R3:=Hd (R2.o.alloc (.cells (ndC x.nd (.slice x.A x.nd.es.length x.c)) 145));have B3:=Hd (B2.o.alloc B2.o.size (.cells (ndC x.nd (.slice x.A x.nd.es.length x.c)) 145));have HE3:=Hd (show AtE EEn (w2.alloc (.cells (ndC x.nd (.slice x.A x.nd.es.length x.c)) 145)) w2.heap.size x.A x.nd.es from HE.o.1.keep ((Below.refl w2.heap.size w2).alloc (Nat.le_refl _) _) (Nat.le_refl _));have HL:=Hd HE.o.2.1;have HSZ:=Hd HE.o.2;have HLT:=Hd (show w.heap.size+1+1 < w2.heap.size from R2.o.lt);clear F2 HE V2 U2 R2 B2;have hs3:(w2.alloc (.cells (ndC x.nd (.slice x.A x.nd.es.length x.c)) 145)).heap.size=w2.heap.size+1:=by simp
  have hr2:=R3.o.lt;have hx2:=X2.o.lt;have hrx:w.heap.size+1+1 < w2.heap.size:=by
   have:=j1;exact HLT.o
  go_upto_region 5 with fail;generalize w2.alloc (.cells (ndC x.nd (.slice x.A x.nd.es.length x.c)) 145)=w3 at *;have x7:=X2.o.cell 7;go_wp2_with (refine aj EEn rfl (.const (.slice none 0 0)) (.tmp 25) rfl w.heap.size (.slice none 0 0) [] rfl (ax.nil _ _) w2.heap.size x.A x.nd.es.length x.c x.nd.es rfl rfl HE3.o (by simp;have:=HL.o;omega) B3.o.size ?_);intro v6 w6 ho6 hg6 ja;clear x7;have ho6:ax EEn w6 w.heap.size v6 x.nd.es:=ho6;have hne:∀ g,g < w3.heap.size→v6.ownBlock≠some g:=fun g hg e=>by
   rcases ja with h | h
   · rw [h] at e;cases e
   · rw [h] at e;injection e with e;omega
  have X6:=Hd (X2.o.grown hg6 (by simp [Value.ownBlock]));have R6:=Hd (R3.o.grown hg6 (by simp [Value.ownBlock]));have B6:=Hd (B3.o.grown hg6 B3.o.size (fun k e=>by simp [Value.ownBlock] at e));obtain ⟨A6,c6,rfl,_⟩:=ho6.at;have XP:=Hd (show Blk (w6.setCell ⟨w2.heap.size,7,none⟩ (.slice A6 x.nd.es.length c6)) w2.heap.size 145 (ndC x.nd (.slice A6 x.nd.es.length c6)) from X6.o.put 7 _);have RP:=Hd (R6.o.af (p:=⟨w2.heap.size,7,none⟩) (.slice A6 x.nd.es.length c6) (by show w.heap.size+1+1≠w2.heap.size;omega));have HO:=Hd (((ho6.bU (g:=w2.heap.size) (i:=7) (hne _ hx2) (.slice A6 x.nd.es.length c6))).rZ (g:=w.heap.size+1+1) (hne _ (by omega)) (ndC x.nd (.slice A6 x.nd.es.length c6)));have BP:=Hd (ai (B6.o.setCell (p:=⟨w2.heap.size,7,none⟩) (by show w.heap.size≤w2.heap.size;omega) (.slice A6 x.nd.es.length c6)) (g:=w.heap.size+1+1) (by omega) (ndC x.nd (.slice A6 x.nd.es.length c6)));have x7:=X6.o.cell 7;have y7:=X6.o.free 7;clear ho6 hg6 ja hne;go_wp2_with (first | ((with_reducible refine az ?_ 145 (.tmp 7) ?_ XP.o ?_ _ Tryz.underlying145 ?_ ?_ ?_);(iterate 4 rfl);exact gB _ _) | ((with_reducible refine ae ?_ 145 (.tmp 4) (.tmp 28) ?_ RP.o (ndC x.nd (.slice A6 x.nd.es.length c6)) ?_ ?_ ?_ ?_ ?_ ?_);(iterate 4 rfl);(exact gB _ _);rfl;(exact eX _ _ _ _)));refine bodyPost_ret (l6 (fn:=Tryz.f70) rfl _ _ (w.heap.size+1+1) x.nd (.slice A6 x.nd.es.length c6) rfl (Blk.row RP.o _)) rfl ?_;rw [HR.o];exact ⟨A6,c6,rfl,HO.o,BP.o,HSZ.o⟩
section
variable {α β:Type} {E:El α} {F:El β} {w w' :World} {b b' :Nat} {v u:Value} {L:List α} {M:List β}
theorem aB (h:ax E w b v L) (k:ax F w b' u M) (hne:E.e≠F.e):∀ g,v.ownBlock=some g→u.ownBlock≠some g:=fun g hg hu=>by
 rcases h.2 with ⟨rfl,_⟩ | ⟨g1,c1,JZ,rfl,_,h1,_⟩
 · cases hg
 · rcases k.2 with ⟨rfl,_⟩ | ⟨g2,c2,M6,rfl,_,h2,_⟩
   · cases hu
   · cases hg;cases hu;rw [h1] at h2;injection h2 with h2;injection h2 with _ h2 _;exact hne h2
theorem ay (h:ax E w b v L) {g:Nat} {t:TypeId} {cs:Array Value} (hg:Blk w g t cs) (hne:E.e≠t):v.ownBlock≠some g:=fun e=>by
 rcases h.2 with ⟨rfl,_⟩ | ⟨g1,c1,JZ,rfl,_,h1,_⟩
 · cases e
 · cases e;unfold Blk at hg;rw [hg] at h1;injection h1 with h1;injection h1 with _ h1 _;exact hne h1.symm
end
structure aC (w:World) (base:Nat) (v:Value) (ds:List Dm):Prop where
 own:ax EDv w base v ds
 few:ds.length≤1000
 nodes:∀ d∈ds,ax ENd w base d.sl d.xs∧d.xs.length≤1000
 bW:∀ d∈ds,∀ x∈d.xs,ax EEn w base x.sl x.nd.es∧iJ x.nd
 apart:ds.Pairwise (fun d d' =>∀ g,d.sl.ownBlock=some g→d'.sl.ownBlock≠some g)
section
variable {w w' :World} {base:Nat} {v v' :Value} {ds:List Dm}
theorem aQ {α:Type} {E:El α} {A:Option Addr} {n c:Nat} {L:List α} (h:ax E w base (.slice A n c) L):AtE E w w.heap.size A L:=by
 obtain ⟨A1,c1,e,hat⟩:=h.at;injection e with e _ _;subst e;exact hat
theorem aC.at (h:aC w base v ds):∃ A c,v= .slice A ds.length c∧bV w w.heap.size A ds:=by
 obtain ⟨A,c,e,hat⟩:=h.own.at;exact ⟨A,c,e,hat,h.few,fun d hd=>⟨aQ (h.nodes d hd).1,(h.nodes d hd).2⟩,fun d hd x hx=>⟨aQ (h.bW d hd x hx).1,(h.bW d hd x hx).2⟩⟩
theorem aC.below (h:aC w base v ds) (hb:Below w.heap.size w w'):aC w' base v ds:=
 ⟨h.own.below hb,h.few,fun d hd=>⟨(h.nodes d hd).1.below hb,(h.nodes d hd).2⟩,fun d hd x hx=>⟨(h.bW d hd x hx).1.below hb,(h.bW d hd x hx).2⟩,h.apart⟩
theorem aC.low {b:Nat} (h:aC w base v ds) (hb:b≤base):aC w b v ds:=
 ⟨h.own.low hb,h.few,fun d hd=>⟨(h.nodes d hd).1.low hb,(h.nodes d hd).2⟩,fun d hd x hx=>⟨(h.bW d hd x hx).1.low hb,(h.bW d hd x hx).2⟩,h.apart⟩
theorem aC.nil (w:World) (base:Nat):aC w base (.slice none 0 0) []:=
 ⟨ax.nil _ _,Nat.zero_le _,(fun _ h=>by cases h),(fun _ h=>by cases h),List.Pairwise.nil⟩
theorem aC.far (h:aC w base v ds) {row:Option Nat} (hg:w.grownBy w' row) (hne:∀ k,row=some k→v.ownBlock≠some k∧(∀ d∈ds,d.sl.ownBlock≠some k)∧∀ d∈ds,∀ x∈d.xs,x.sl.ownBlock≠some k):aC w' base v ds:=
 ⟨h.own.far hg (fun k e r=>(hne k r).1 e),h.few,fun d hd=>⟨(h.nodes d hd).1.far hg (fun k e r=>(hne k r).2.1 d hd e),(h.nodes d hd).2⟩,
  fun d hd x hx=>⟨(h.bW d hd x hx).1.far hg (fun k e r=>(hne k r).2.2 d hd x hx e),(h.bW d hd x hx).2⟩,h.apart⟩
theorem aC.old (h:aC w base v ds) {g:Nat} (hg:g < base):v.ownBlock≠some g∧(∀ d∈ds,d.sl.ownBlock≠some g)∧∀ d∈ds,∀ x∈d.xs,x.sl.ownBlock≠some g:=
 ⟨fun e=>by have:=h.own.ge g e;omega,fun d hd e=>by have:=(h.nodes d hd).1.ge g e;omega,fun d hd x hx e=>by have:=(h.bW d hd x hx).1.ge g e;omega⟩
theorem aC.new (h:aC w base v ds) {g:Nat} (hg:w.heap.size≤g):v.ownBlock≠some g∧(∀ d∈ds,d.sl.ownBlock≠some g)∧∀ d∈ds,∀ x∈d.xs,x.sl.ownBlock≠some g:=
 ⟨fun e=>by have:=h.own.lt g e;omega,fun d hd e=>by have:=(h.nodes d hd).1.lt g e;omega,fun d hd x hx e=>by have:=(h.bW d hd x hx).1.lt g e;omega⟩
theorem ak (w:World) (g i:Nat) (u:Value):w.grownBy (w.setCell ⟨g,i,none⟩ u) (some g):=
 ⟨rfl,rfl,rfl,by simp [World.setCell],fun k _ hk=>Below.heap_setCell _ _ _ _ (fun e=>hk (by rw [e]))⟩
theorem aA (w:World) (g:Nat) (cs:Array Value):w.grownBy (w.setRow g cs) (some g):=
 ⟨rfl,rfl,rfl,by rw [setRow_size];exact Nat.le_refl _,fun i _ hne=>setRow_other _ g i cs (fun e=>hne (by rw [e]))⟩
theorem aC.app {d:Dm} (h:aC w base v ds) (hd:ax ENd w base d.sl d.xs) (hl:d.xs.length≤1000) (hx:∀ x∈d.xs,ax EEn w base x.sl x.nd.es∧iJ x.nd) (hap:∀ d' ∈ds,∀ g,d'.sl.ownBlock=some g→d.sl.ownBlock≠some g)
   (ho:ax EDv w' base v' (ds ++ [d])) (hg:w.grownBy w' v.ownBlock) (hn:ds.length+1≤1000):aC w' base v' (ds ++ [d]):=by
 have k1:∀ {x:Dm},ax ENd w base x.sl x.xs→ax ENd w' base x.sl x.xs:=fun {x} hx=>hx.far hg (fun k e r=>aB hx h.own (show (145:Nat)≠142 by decide) k e r);have k2:∀ {x:Nm},ax EEn w base x.sl x.nd.es→ax EEn w' base x.sl x.nd.es:=fun {x} hx=>hx.far hg (fun k e r=>aB hx h.own (show (209:Nat)≠142 by decide) k e r);refine ⟨ho,by simpa using hn,fun e he=>?_,fun e he x hx' =>?_,?_⟩
 · rcases List.mem_append.1 he with he | he
   · exact ⟨k1 (h.nodes e he).1,(h.nodes e he).2⟩
   · rw [List.mem_singleton.1 he];exact ⟨k1 hd,hl⟩
 · rcases List.mem_append.1 he with he | he
   · exact ⟨k2 (h.bW e he x hx').1,(h.bW e he x hx').2⟩
   · rw [List.mem_singleton.1 he] at hx';exact ⟨k2 (hx x hx').1,(hx x hx').2⟩
 · refine List.pairwise_append.2 ⟨h.apart,List.pairwise_singleton _ _,fun a ha b hb=>?_⟩;rw [List.mem_singleton.1 hb];exact hap a ha
end
theorem bN (v:Value):(Tryz.prog.info? 28).map (·.size)=some (#[v]:Array Value).size:=by show _=some 1;kernel_rfl
theorem Hz (nx:Int) (v:Value):(Tryz.prog.info? 142).map (·.size)=some (dvC nx v).size:=by show _=some 2;kernel_rfl
theorem Dj {fn:Func} {i:Nat} (h:fn.results=#[.cell i 28]) (tmps:Array Value) (w:World) (g:Nat) (v:Value) (hp:tmps.getD i undef= .pointer (some ⟨g,0,none⟩)) (hg:Blk w g 28 #[v]):
  (results fn tmps).run Tryz.prog w= .ok (.agg #[v]) w:=
 results_cell_row h tmps w g _ #[v] (0,0) _ hp hg Tryz.underlying28 rfl (by show _=some 1;kernel_rfl)
def wW (f:List Dv) (w:World) (e:Ending) (w' :World):Prop:=
 ∃ (v:Value) (ds:List Dm),e= .returned (.agg #[v])∧aC w' w.heap.size v ds∧ds.map Dm.dv=f∧Below w.heap.size w w'
structure CpS (w wr:World) (A:Option Addr) (n c:Nat) (ds:List Dm) (j:Nat):Prop where
 low:Below w.heap.size w wr
 src:bV wr w.heap.size A ds
 arg:Blk wr w.heap.size 28 #[.slice A n c]
 res:Blk wr (w.heap.size+1) 28 #[.slice none 0 0]
 o:∃ (v:Value) (es:List Dm),Blk wr (w.heap.size+1+1) 28 #[v]∧aC wr (w.heap.size+1+1+1) v es∧es.map Dm.dv=(ds.take j).map Dm.dv
structure CnS (ws wr:World) (nx:Int) (xs:List Nm) (k:Nat):Prop where
 low:Below ws.heap.size ws wr
 o:∃ (v:Value) (ys:List Nm),Blk wr ws.heap.size 142 (dvC nx v)∧ax ENd wr (ws.heap.size+1) v ys∧ys.map (·.nd)=(xs.take k).map (·.nd)∧∀ y∈ys,ax EEn wr (ws.heap.size+1) y.sl y.nd.es
theorem zZ {ys xs:List Nm} {k:Nat} (h:ys.map (·.nd)=(xs.take k).map (·.nd)):ys.length=min k xs.length:=by
 have:=congrArg List.length h;simpa using this
theorem z8 {ys xs:List Nm} {k:Nat} (h:ys.map (·.nd)=(xs.take k).map (·.nd)) (hk:k < xs.length) (A:Option Addr) (c:Nat):(ys ++ [(⟨xs[k].nd,A,c⟩:Nm)]).map (·.nd)=(xs.take (k+1)).map (·.nd):=by
 rw [List.map_append,h,List.take_succ_eq_append_getElem hk,List.map_append];rfl
theorem Ad {es ds:List Dm} {k:Nat} (h:es.map Dm.dv=(ds.take k).map Dm.dv) (hk:k < ds.length) {ys:List Nm} (hy:ys.map (·.nd)=ds[k].xs.map (·.nd)) (A:Option Addr) (c:Nat):(es ++ [(⟨ds[k].nx,ys,A,c⟩:Dm)]).map Dm.dv=(ds.take (k+1)).map Dm.dv:=by
 rw [List.map_append,h,List.take_succ_eq_append_getElem hk,List.map_append];congr 1;show [(⟨ds[k].nx,ys.map (·.nd)⟩:Dv)]= [(⟨ds[k].nx,ds[k].xs.map (·.nd)⟩:Dv)];rw [hy]
theorem CpS.grow {w wr w' :World} {A:Option Addr} {n c:Nat} {ds:List Dm} {j:Nat} (h:CpS w wr A n c ds j) (hb:Below wr.heap.size wr w'):CpS w w' A n c ds j:=by
 obtain ⟨v,es,h1,h2,h3⟩:=h.o;exact ⟨h.low.trans (hb.mono h.low.size),h.src.keep hb h.low.size,h.arg.below hb,h.res.below hb,v,es,h1.below hb,h2.below hb,h3⟩
theorem jA (ds:List Dm) (A:Option Addr) (n c:Nat) (hn:n=ds.length) (w:World) (h:bV w w.heap.size A ds):
  Calls Tryz.prog 171 #[fsV A n c] w (wW (ds.map Dm.dv) w):=by
 have HN:=Hd hn;have hs1:(w.alloc (.cells #[.slice A n c] 28)).heap.size=w.heap.size+1:=by simp
 have hs2:((w.alloc (.cells #[.slice A n c] 28)).alloc (.cells #[.slice none 0 0] 28)).heap.size=w.heap.size+1+1:=by simp
 have hs3:(((w.alloc (.cells #[.slice A n c] 28)).alloc (.cells #[.slice none 0 0] 28)).alloc (.cells #[.slice none 0 0] 28)).heap.size=w.heap.size+1+1+1:=by simp
 have B0:Below w.heap.size w (((w.alloc (.cells #[.slice A n c] 28)).alloc (.cells #[.slice none 0 0] 28)).alloc (.cells #[.slice none 0 0] 28)):=(((Below.refl w.heap.size w).alloc (Nat.le_refl _) _).alloc (by rw [hs1];omega) _).alloc (by rw [hs2];omega) _;have S0:=Hd (show CpS w (((w.alloc (.cells #[.slice A n c] 28)).alloc (.cells #[.slice none 0 0] 28)).alloc (.cells #[.slice none 0 0] 28)) A n c ds 0 from
  ⟨B0,h.keep B0 (Nat.le_refl _),((Blk.new w #[.slice A n c] 28).alloc _).alloc _,by
   have:=(Blk.new (w.alloc (.cells #[.slice A n c] 28)) #[.slice none 0 0] 28).alloc (.cells #[.slice none 0 0] 28);rw [hs1] at this;exact this, .slice none 0 0, [],by
   have:=Blk.new ((w.alloc (.cells #[.slice A n c] 28)).alloc (.cells #[.slice none 0 0] 28)) #[.slice none 0 0] 28;rw [hs2] at this;exact this,aC.nil _ _,rfl⟩)
 have KW:=Hd h.few;clear h hn B0 hs1 hs2 hs3;go_in;go_wp2_with fail;generalize (((w.alloc (.cells #[.slice A n c] 28)).alloc (.cells #[.slice none 0 0] 28)).alloc (.cells #[.slice none 0 0] 28))=w0 at *;go_loopw [4] (fun i wr=>∃ j:Nat,j≤ds.length∧i= .int .i64 j∧Hid (CpS w wr A n c ds j)) (fun i _=>ds.length - (intOf i).toNat);case atStart=>exact ⟨0,Nat.zero_le _,rfl,S0⟩
 case round=>
  clear S0;generalize wr=ws at *;obtain ⟨j,hj,rfl,HS⟩:=hrel;have a0:=HS.o.arg.cell 0;have nD:=KW.o;have wj1:wrap64 ((j:Int)+1)=(j:Int)+1:=IntWalk.wrap64_in _ (by omega);have wj2:IntKind.i64.wrap ((j:Int)+1)=(j:Int)+1:=IntWalk.i64_in _ (by omega);by_cases hlt:j < ds.length;case pos=>
   have j1:(j:Int) < (n:Int):=(by rw [HN.o];omega);have j2:(0:Int)≤(j:Int):=(by omega);have HD:=Hd (HS.o.src.nodes ds[j] (List.getElem_mem hlt));have HE:=Hd (HS.o.src.bW ds[j] (List.getElem_mem hlt));obtain ⟨ad,rfl,hab,hcx⟩:=HS.o.src.at_ j hlt;obtain ⟨s0,s1⟩:=bK (a:=ad.add (j * 2)) hcx;have HTK:=Hd (fun (es:List Dm) (he:es.map Dm.dv=(ds.take j).map Dm.dv) (ys:List Nm) (hy:ys.map (·.nd)=ds[j].xs.map (·.nd)) (A' :Option Addr) (c' :Nat)=>Ad he hlt hy A' c');have M9:=Hd (show AtE EDv ws w.heap.size (some ad) ds from HS.o.src.at_);clear hcx;obtain ⟨d,hdj⟩:∃ d,d=ds[j]:=⟨_,rfl⟩;have HDJ:=Hd hdj;rw [← hdj] at HD HE HTK s0 s1;clear hdj;have C0:=Hd (show CnS ws (ws.alloc (.cells (dvC d.nx (.slice none 0 0)) 142)) d.nx d.xs 0 from ⟨(Below.refl ws.heap.size ws).alloc (Nat.le_refl _) _, .slice none 0 0, [],Blk.new ws _ _,ax.nil _ _,rfl,fun _ h=>by cases h⟩);go_wp2_with fail;generalize ws.alloc (.cells (dvC d.nx (.slice none 0 0)) 142)=w5 at *;clear a0 s0 s1;go_loopw [6] (fun i wr=>∃ k:Nat,k≤d.xs.length∧i= .int .i64 k∧Hid (CnS ws wr d.nx d.xs k)) (fun i _=>d.xs.length - (intOf i).toNat);case atStart=>exact ⟨0,Nat.zero_le _,rfl,C0⟩
   case round=>
    clear C0;obtain ⟨k,hk,rfl,HC⟩:=hrel;have T:=Hd (HS.o.grow HC.o.low);have a0:=T.o.arg.cell 0;obtain ⟨ad',e0,hab',hcx⟩:=T.o.src.at_ j hlt;injection e0 with e0;subst e0;obtain ⟨s0,s1⟩:=bK (a:=ad.add (j * 2)) hcx;rw [← HDJ.o] at s0 s1;clear hcx;have J2:=HD.o.2;have wk1:wrap64 ((k:Int)+1)=(k:Int)+1:=IntWalk.wrap64_in _ (by omega);have wk2:IntKind.i64.wrap ((k:Int)+1)=(k:Int)+1:=IntWalk.i64_in _ (by omega);by_cases hkl:k < d.xs.length;case pos=>
     have k1:(k:Int) < (d.xs.length:Int):=(by omega);have k2:(0:Int)≤(k:Int):=(by omega);have HXE:=Hd (show AtE EEn wr w.heap.size d.xs[k].A d.xs[k].nd.es∧iJ d.xs[k].nd by
      have h:=T.o.src.bW ds[j] (List.getElem_mem hlt);rw [← HDJ.o] at h;exact h _ (List.getElem_mem hkl))
     obtain ⟨bd,hbd,hbb,hcy⟩:=(show AtE ENd wr w.heap.size d.A d.xs by
      have h:=(T.o.src.nodes ds[j] (List.getElem_mem hlt)).1;rw [← HDJ.o] at h;exact h) k hkl
     obtain ⟨t0,t1,t2,t3,t4,t5,t6,t7⟩:=cK (a:=bd.add (k * 8)) hcy;obtain ⟨v,ys,hvb,hvo,hys,hye⟩:=HC.o.o;have VB:=Hd hvb;have VO:=Hd hvo;have HYS:=Hd (fun (A' :Option Addr) (c' :Nat)=>z8 hys hkl A' c');have HYL:=Hd (show ys.length≤1000 by rw [zZ hys];omega);have HYE:=Hd hye;have rM:=Hd HC.o.low;clear hcy hvb hvo hys hye HC;generalize d.xs[k]=x at *;rw [hbd] at s1;have B3:=Hd (rM.o.alloc rM.o.size (.cells (ndC x.nd (.slice x.A x.nd.es.length x.c)) 145));have X3:=Hd (Blk.new wr (ndC x.nd (.slice x.A x.nd.es.length x.c)) 145);have VB3:=Hd (VB.o.alloc (.cells (ndC x.nd (.slice x.A x.nd.es.length x.c)) 145));have VO3:=Hd (VO.o.alloc (.cells (ndC x.nd (.slice x.A x.nd.es.length x.c)) 145));have J3:=Hd (fun y hy=>(HYE.o y hy).alloc (.cells (ndC x.nd (.slice x.A x.nd.es.length x.c)) 145));have J4:=Hd (HXE.o.1.keep ((Below.refl wr.heap.size wr).alloc (Nat.le_refl _) (.cells (ndC x.nd (.slice x.A x.nd.es.length x.c)) 145)) (by have:=T.o.low.size;exact this));have HXL:=Hd HXE.o.2;have HVX:=Hd (fun r (e:v.ownBlock=some r)=>VO.o.lt r e);have HYX:=Hd (fun y hy r (e:y.sl.ownBlock=some r)=>(HYE.o y hy).lt r e);have HGX:ws.heap.size < wr.heap.size:=VB.o.lt;have HGW:w.heap.size≤ws.heap.size:=HS.o.low.size;go_upto_region 10 with fail;clear a0 s0 s1 t0 t1 t2 t3 t4 t5 t6 t7;have hs3:(wr.alloc (.cells (ndC x.nd (.slice x.A x.nd.es.length x.c)) 145)).heap.size=wr.heap.size+1:=(by simp);generalize wr.alloc (.cells (ndC x.nd (.slice x.A x.nd.es.length x.c)) 145)=w3 at *;have x7:=X3.o.cell 7;go_wp2_with (refine aj EEn rfl (.const (.slice none 0 0)) (.tmp 43) rfl (ws.heap.size+1) (.slice none 0 0) [] rfl (ax.nil _ _) w.heap.size x.A x.nd.es.length x.c x.nd.es rfl rfl J4.o (by simp;have:=HXL.o.1;omega) (by omega) ?_);intro v6 w6 ho6 hg6 ja;have ho6:ax EEn w6 (ws.heap.size+1) v6 x.nd.es:=ho6;clear x7;have hnone:∀ {g:Nat},(Value.slice none 0 0).ownBlock≠some g:=fun e=>by cases e
     have X6:=Hd (X3.o.grown hg6 hnone);have B6:=Hd (B3.o.grown hg6 B3.o.size (fun k e=>by cases e));have VB6:=Hd (VB3.o.grown hg6 hnone);have VO6:=Hd (VO3.o.far hg6 (fun k _ e=>hnone e));have J5:=Hd (fun y hy=>(J3.o y hy).far hg6 (fun k _ e=>hnone e));obtain ⟨A6,c6,rfl,_⟩:=ho6.at;have Dk:(Value.slice A6 x.nd.es.length c6).ownBlock≠some wr.heap.size:=fun e=>by
      rcases ja with h | h
      · rw [h] at e;exact hnone e
      · rw [h] at e;injection e with e;omega
     have hgc:=ak w6 wr.heap.size 7 (.slice A6 x.nd.es.length c6);have X7:=Hd (show Blk (w6.setCell ⟨wr.heap.size,7,none⟩ (.slice A6 x.nd.es.length c6)) wr.heap.size 145 (ndC x.nd (.slice A6 x.nd.es.length c6)) from X6.o.put 7 _);have B7:=Hd (B6.o.setCell (p:=⟨wr.heap.size,7,none⟩) (by show ws.heap.size≤wr.heap.size;omega) (.slice A6 x.nd.es.length c6));have VB7:=Hd (VB6.o.grown hgc (fun e=>by injection e with e;omega));have VO7:=Hd (VO6.o.far hgc (fun k e r=>by injection r with r;have:=HVX.o k e;omega));have KX:=Hd (fun y hy=>(J5.o y hy).far hgc (fun k e r=>by injection r with r;have:=HYX.o y hy k e;omega));have HO7:=Hd (ho6.far hgc (fun k e r=>by injection r with r;subst r;exact Dk e));have x7:=X6.o.cell 7;have y7:=X6.o.free 7;clear X3 B3 VB3 VO3 J3 J4 hs3 ho6 hg6 ja Dk hgc X6 B6 VB6 VO6 J5;go_upto_region 11 with fail;clear x7 y7;generalize w6.setCell ⟨wr.heap.size,7,none⟩ (.slice A6 x.nd.es.length c6)=w7 at *;have v1:=VB7.o.cell 1;have RW:=Hd (aJ ENd w7 (ndC x.nd (.slice A6 x.nd.es.length c6)) 145 ⟨x.nd,A6,c6⟩ rfl (Nat.lt_succ_self w7.heap.size));have B8:=Hd (B7.o.alloc B7.o.size (.cells (ndC x.nd (.slice A6 x.nd.es.length c6)) 145));have VB8:=Hd (VB7.o.alloc (.cells (ndC x.nd (.slice A6 x.nd.es.length c6)) 145));have VO8:=Hd (VO7.o.alloc (.cells (ndC x.nd (.slice A6 x.nd.es.length c6)) 145));have H6:=Hd (fun y hy=>(KX.o y hy).alloc (.cells (ndC x.nd (.slice A6 x.nd.es.length c6)) 145));have HO8:=Hd (HO7.o.alloc (.cells (ndC x.nd (.slice A6 x.nd.es.length c6)) 145));have hl7:ws.heap.size < w7.heap.size:=VB7.o.lt;go_wp2_with (first | ((with_reducible refine az ?_ 145 (.tmp 7) ?_ X7.o ?_ _ Tryz.underlying145 ?_ ?_ ?_);(iterate 4 rfl);exact gB _ _) | (refine aj ENd rfl (.tmp 47) (.tmp 49) rfl (ws.heap.size+1) v ys rfl VO8.o (w7.heap.size+1) (some ⟨w7.heap.size,0,none⟩) 1 1 [⟨x.nd,A6,c6⟩] rfl rfl RW.o (by have:=HYL.o;simp;omega) (by simp;omega) ?_));intro v9 w9 ho9 hg9 o5;clear v1;obtain ⟨A9,c9,e9,_⟩:=ho9.at;rw [show (ys ++ [(⟨x.nd,A6,c6⟩:Nm)]).length=ys.length+1 by simp] at e9;subst e9;have hvb:v.ownBlock≠some ws.heap.size:=fun e=>by have:=VO8.o.ge _ e;omega
     have VB9:=Hd (VB8.o.grown hg9 hvb);have c1:=VB9.o.cell 1;have f1:=VB9.o.free 1;have hgc:=ak w9 ws.heap.size 1 (.slice A9 (ys.length+1) c9);have HC9:=Hd (show CnS ws (w9.setCell ⟨ws.heap.size,1,none⟩ (.slice A9 (ys.length+1) c9)) d.nx d.xs (k+1) from
      ⟨(B8.o.grown hg9 B8.o.size (fun q e=>by have:=VO8.o.ge _ e;omega)).setCell (p:=⟨ws.heap.size,1,none⟩) (Nat.le_refl _) _,
        .slice A9 (ys.length+1) c9,ys ++ [(⟨x.nd,A6,c6⟩:Nm)],VB9.o.put 1 _,ho9.far hgc (fun q e r=>by injection r with r;have:=ho9.ge _ e;omega),HYS.o A6 c6,fun y hy=>by
         rcases List.mem_append.1 hy with hy | hy
         · exact ((H6.o y hy).far hg9 (fun q e r=>aB (H6.o y hy) VO8.o (show (209:Nat)≠145 by decide) q e r)).far hgc (fun q e r=>by injection r with r;have:=(H6.o y hy).ge _ e;omega)
         · rw [List.mem_singleton.1 hy];exact (HO8.o.far hg9 (fun q e r=>aB HO8.o VO8.o (show (209:Nat)≠145 by decide) q e r)).far hgc (fun q e r=>by injection r with r;have:=HO8.o.ge _ e;omega)⟩)
     clear ho9 hg9 o5 hvb hgc;go_wp2_with fail;go_roundw;case rel=>exact ⟨k+1,by omega,by go_num,HC9⟩
     case measure=>simp [intOf];omega
    case neg=>
     have k1:¬ (k:Int) < (d.xs.length:Int):=(by omega);obtain ⟨bd,hbd⟩:∃ bd,bd=d.A:=⟨_,rfl⟩;obtain ⟨v,ys,hvb,hvo,hys,hye⟩:=HC.o.o;rw [List.take_of_length_le (by omega)] at hys;obtain ⟨Av,cv,rfl,_⟩:=hvo.at;obtain ⟨vo,es,hob,hof,hoe⟩:=HS.o.o;obtain ⟨Ao,co,rfl,_⟩:=hof.own.at;have hgw:w.heap.size+1+1 < ws.heap.size:=hob.lt;have hlow:=HC.o.low;have H7:=hof.below hlow;have Gz:=hob.below hlow;have hyl:ys.length≤1000:=(by have:=congrArg List.length hys;simp at this;omega);have hel:es.length=j:=(by have:=congrArg List.length hoe;simp at this;omega);have HVB:=Hd hvb;have RW:=Hd (aJ EDv wr (dvC d.nx (.slice Av ys.length cv)) 142 ⟨d.nx,ys,Av,cv⟩ rfl (Nat.lt_succ_self wr.heap.size));have HFA:=Hd (H7.own.alloc (.cells (dvC d.nx (.slice Av ys.length cv)) 142));have hba:=(Below.refl wr.heap.size wr).alloc (Nat.le_refl _) (.cells (dvC d.nx (.slice Av ys.length cv)) 142);have HEL:=Hd hel;have HWS:ws.heap.size < wr.heap.size:=hvb.lt;have J6:=Hd (fun (v9:Value) (w9:World) (ho9:ax EDv w9 (w.heap.size+1+1+1) v9 (es ++ [(⟨d.nx,ys,Av,cv⟩:Dm)])) (hg9:(wr.alloc (.cells (dvC d.nx (.slice Av ys.length cv)) 142)).grownBy w9 (Value.slice Ao es.length co).ownBlock)=>
      (H7.below hba).app (d:=⟨d.nx,ys,Av,cv⟩) ((hvo.alloc _).low (by omega)) hyl (fun y hy=>⟨((hye y hy).alloc _).low (by omega),by
        have h1:y.nd∈ys.map (·.nd):=List.mem_map.2 ⟨y,hy,rfl⟩;rw [hys] at h1;obtain ⟨z,hz,e⟩:=List.mem_map.1 h1;rw [← e];exact (HE.o z hz).2⟩) (fun d' hd' g e r=>by
        have h1:=(hof.nodes d' hd').1.lt g e;have h2:=hvo.ge g r;omega) ho9 hg9 (by omega))
     have HDV:=Hd (HTK.o es hoe ys hys Av cv);have HOB:=Hd (Gz.alloc (.cells (dvC d.nx (.slice Av ys.length cv)) 142));have HGE:=Hd (fun q (e:(Value.slice Ao es.length co).ownBlock=some q)=>hof.own.ge q e);have c0:=Gz.cell 0;have f0:=Gz.free 0;clear hvb hvo hys hye hob hof hoe hlow H7 Gz HC hyl hel hba;go_wp2_with (first | ((with_reducible refine az ?_ 142 (.tmp 5) ?_ HVB.o ?_ _ Tryz.underlying142 ?_ ?_ ?_);(iterate 4 rfl);exact Hz _ _) | (refine aj EDv rfl (.tmp 53) (.tmp 55) rfl (w.heap.size+1+1+1) (.slice Ao es.length co) es rfl HFA.o (wr.heap.size+1) (some ⟨wr.heap.size,0,none⟩) 1 1 [⟨d.nx,ys,Av,cv⟩] rfl rfl RW.o (by have:=HEL.o;simp;omega) (by simp;omega) ?_));intro v9 w9 ho9 hg9 o5;obtain ⟨A9,c9,e9,_⟩:=ho9.at;rw [show (es ++ [(⟨d.nx,ys,Av,cv⟩:Dm)]).length=es.length+1 by simp] at e9;subst e9;clear a0 s0 s1 c0 f0;have hne:∀ g,g≤w.heap.size+1+1→(Value.slice Ao es.length co).ownBlock≠some g:=fun g hg e=>by have:=HGE.o g e;omega
     have HO9:=Hd (HOB.o.grown hg9 (hne _ (Nat.le_refl _)));have c0:=HO9.o.cell 0;have f0:=HO9.o.free 0;have hbz:Below w.heap.size wr (w9.setCell ⟨w.heap.size+1+1,0,none⟩ (.slice A9 (es.length+1) c9)):=
      ((((Below.refl w.heap.size wr).alloc (by omega) (.cells (dvC d.nx (.slice Av ys.length cv)) 142)).grown hg9 (by simp;omega) (fun q e=>by have:=HGE.o q e;omega)).setCell (p:=⟨w.heap.size+1+1,0,none⟩) (by show w.heap.size≤w.heap.size+1+1;omega) _)
     have HN9:=Hd (show CpS w (w9.setCell ⟨w.heap.size+1+1,0,none⟩ (.slice A9 (es.length+1) c9)) (some ad) n c ds (j+1) from
      ⟨T.o.low.trans hbz,T.o.src.keep hbz (Nat.le_refl _),((T.o.arg.alloc _).grown hg9 (hne _ (by omega))).af _ (by show w.heap.size≠w.heap.size+1+1;omega),((T.o.res.alloc _).grown hg9 (hne _ (by omega))).af _ (by show w.heap.size+1≠w.heap.size+1+1;omega),
        .slice A9 (es.length+1) c9,es ++ [(⟨d.nx,ys,Av,cv⟩:Dm)],HO9.o.put 0 _,by
         have hf:=J6.o _ _ ho9 hg9;exact hf.far (ak w9 (w.heap.size+1+1) 0 _) (fun q e=>by injection e with e;subst e;exact hf.old (by omega)),HDV.o⟩)
     clear ho9 hg9 o5 hbz hne J6;go_wp2_with fail;go_roundw;case rel=>exact ⟨j+1,by omega,by go_num,HN9⟩
     case measure=>simp [intOf];omega
  case neg=>
   have j1:¬ (j:Int) < (n:Int):=(by rw [HN.o];omega);obtain ⟨v,es,hob,hof,hoe⟩:=HS.o.o;rw [List.take_of_length_le (by omega)] at hoe;obtain ⟨Ao,co,rfl,_⟩:=hof.own.at;have HOB:=Hd hob;have Dl:=Hd HS.o.res;have rM:=Hd HS.o.low;have HFF:=Hd (hof.far (aA ws (w.heap.size+1) #[.slice Ao es.length co]) (fun q e=>by injection e with e;subst e;exact hof.old (by omega)));have HOE:=Hd hoe;clear hob hof hoe HS;go_wp2_with (first | ((with_reducible refine az ?_ 28 (.tmp 3) ?_ HOB.o ?_ _ Tryz.underlying28 ?_ ?_ ?_);(iterate 4 rfl);exact bN _) | ((with_reducible refine ae ?_ 28 (.tmp 2) (.tmp 58) ?_ Dl.o #[.slice Ao es.length co] ?_ ?_ ?_ ?_ ?_ ?_);(iterate 4 rfl);(exact bN _);rfl;(simp [Value.oneCell'])));refine bodyPost_ret (Dj (fn:=Tryz.f171) rfl _ _ (w.heap.size+1) (.slice Ao es.length co) rfl (Blk.row Dl.o _)) rfl ?_;exact ⟨_,es,rfl,HFF.o.low (by omega),HOE.o,ai rM.o (by omega) _⟩
end Go.Proofs.YtollifnnpihfdaaGreatDoor
