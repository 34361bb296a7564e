import Derived.Test.YtollifnnpihfdaaGreatDoorB04
set_option maxRecDepth 100000
set_option maxHeartbeats 64000000
set_option linter.all false
namespace Go.Proofs.YtollifnnpihfdaaGreatDoor
open Go.RowKit
section
variable {α β:Type} {E:El α} {F:El β} {w w' :World} {b b' :Nat} {v u:Value} {L:List α} {M:List β}
theorem aB (h:ax E w b v L) (k:ax F w b' u M) (hne:E.e≠F.e):∀ g,v.ownBlock=some g→u.ownBlock≠some g:=fun g hg hu=>by
 rcases h.2 with ⟨rfl,_⟩ | ⟨g1,c1,LX,rfl,_,h1,_⟩
 · cases hg
 · rcases k.2 with ⟨rfl,_⟩ | ⟨g2,c2,Pz,rfl,_,h2,_⟩
   · cases hu
   · cases hg;cases hu;rw [h1] at h2;injection h2 with h2;injection h2 with _ h2 _;exact hne h2
theorem ay (h:ax E w b v L) {g:Nat} {t:TypeId} {cs:Array Value} (hg:Blk w g t cs) (hne:E.e≠t):v.ownBlock≠some g:=fun e=>by
 rcases h.2 with ⟨rfl,_⟩ | ⟨g1,c1,LX,rfl,_,h1,_⟩
 · cases e
 · cases e;unfold Blk at hg;rw [hg] at h1;injection h1 with h1;injection h1 with _ h1 _;exact hne h1.symm
end
structure aC (w:World) (base:Nat) (v:Value) (ds:List Dm):Prop where
 own:ax EDv w base v ds
 few:ds.length≤1000
 nodes:∀ d∈ds,ax ENd w base d.sl d.xs∧d.xs.length≤1000
 cu:∀ d∈ds,∀ x∈d.xs,ax EEn w base x.sl x.nd.es∧jg x.nd
 apart:ds.Pairwise (fun d d' =>∀ g,d.sl.ownBlock=some g→d'.sl.ownBlock≠some g)
section
variable {w w' :World} {base:Nat} {v v' :Value} {ds:List Dm}
theorem aU {α:Type} {E:El α} {A:Option Addr} {n c:Nat} {L:List α} (h:ax E w base (.slice A n c) L):AtE E w w.heap.size A L:=by
 obtain ⟨A1,c1,e,hat⟩:=h.at;injection e with e _ _;subst e;exact hat
theorem aC.at (h:aC w base v ds):∃ A c,v= .slice A ds.length c∧bZ w w.heap.size A ds:=by
 obtain ⟨A,c,e,hat⟩:=h.own.at;exact ⟨A,c,e,hat,h.few,fun d hd=>⟨aU (h.nodes d hd).1,(h.nodes d hd).2⟩,fun d hd x hx=>⟨aU (h.cu d hd x hx).1,(h.cu d hd x hx).2⟩⟩
theorem aC.below (h:aC w base v ds) (hb:Below w.heap.size w w'):aC w' base v ds:=
 ⟨h.own.below hb,h.few,fun d hd=>⟨(h.nodes d hd).1.below hb,(h.nodes d hd).2⟩,fun d hd x hx=>⟨(h.cu d hd x hx).1.below hb,(h.cu d hd x hx).2⟩,h.apart⟩
theorem aC.low {b:Nat} (h:aC w base v ds) (hb:b≤base):aC w b v ds:=
 ⟨h.own.low hb,h.few,fun d hd=>⟨(h.nodes d hd).1.low hb,(h.nodes d hd).2⟩,fun d hd x hx=>⟨(h.cu d hd x hx).1.low hb,(h.cu d hd x hx).2⟩,h.apart⟩
theorem aC.nil (w:World) (base:Nat):aC w base (.slice none 0 0) []:=
 ⟨ax.nil _ _,Nat.zero_le _,(fun _ h=>by cases h),(fun _ h=>by cases h),List.Pairwise.nil⟩
theorem aC.far (h:aC w base v ds) {row:Option Nat} (hg:w.grownBy w' row) (hne:∀ k,row=some k→v.ownBlock≠some k∧(∀ d∈ds,d.sl.ownBlock≠some k)∧∀ d∈ds,∀ x∈d.xs,x.sl.ownBlock≠some k):aC w' base v ds:=
 ⟨h.own.far hg (fun k e r=>(hne k r).1 e),h.few,fun d hd=>⟨(h.nodes d hd).1.far hg (fun k e r=>(hne k r).2.1 d hd e),(h.nodes d hd).2⟩,
  fun d hd x hx=>⟨(h.cu d hd x hx).1.far hg (fun k e r=>(hne k r).2.2 d hd x hx e),(h.cu d hd x hx).2⟩,h.apart⟩
theorem aC.old (h:aC w base v ds) {g:Nat} (hg:g < base):v.ownBlock≠some g∧(∀ d∈ds,d.sl.ownBlock≠some g)∧∀ d∈ds,∀ x∈d.xs,x.sl.ownBlock≠some g:=
 ⟨fun e=>by have:=h.own.ge g e;omega,fun d hd e=>by have:=(h.nodes d hd).1.ge g e;omega,fun d hd x hx e=>by have:=(h.cu d hd x hx).1.ge g e;omega⟩
theorem aC.new (h:aC w base v ds) {g:Nat} (hg:w.heap.size≤g):v.ownBlock≠some g∧(∀ d∈ds,d.sl.ownBlock≠some g)∧∀ d∈ds,∀ x∈d.xs,x.sl.ownBlock≠some g:=
 ⟨fun e=>by have:=h.own.lt g e;omega,fun d hd e=>by have:=(h.nodes d hd).1.lt g e;omega,fun d hd x hx e=>by have:=(h.cu d hd x hx).1.lt g e;omega⟩
theorem av (w:World) (g i:Nat) (u:Value):w.grownBy (w.setCell ⟨g,i,none⟩ u) (some g):=
 ⟨rfl,rfl,rfl,by simp [World.setCell],fun k _ hk=>Below.heap_setCell _ _ _ _ (fun e=>hk (by rw [e]))⟩
theorem aA (w:World) (g:Nat) (cs:Array Value):w.grownBy (w.setRow g cs) (some g):=
 ⟨rfl,rfl,rfl,by rw [setRow_size];exact Nat.le_refl _,fun i _ hne=>setRow_other _ g i cs (fun e=>hne (by rw [e]))⟩
theorem aC.app {d:Dm} (h:aC w base v ds) (hd:ax ENd w base d.sl d.xs) (hl:d.xs.length≤1000) (hx:∀ x∈d.xs,ax EEn w base x.sl x.nd.es∧jg x.nd) (hap:∀ d' ∈ds,∀ g,d'.sl.ownBlock=some g→d.sl.ownBlock≠some g)
   (ho:ax EDv w' base v' (ds ++ [d])) (hg:w.grownBy w' v.ownBlock) (hn:ds.length+1≤1000):aC w' base v' (ds ++ [d]):=by
 have k1:∀ {x:Dm},ax ENd w base x.sl x.xs→ax ENd w' base x.sl x.xs:=fun {x} hx=>hx.far hg (fun k e r=>aB hx h.own (show (145:Nat)≠142 by decide) k e r);have k2:∀ {x:Nm},ax EEn w base x.sl x.nd.es→ax EEn w' base x.sl x.nd.es:=fun {x} hx=>hx.far hg (fun k e r=>aB hx h.own (show (209:Nat)≠142 by decide) k e r);refine ⟨ho,by simpa using hn,fun e he=>?_,fun e he x hx' =>?_,?_⟩
 · rcases List.mem_append.1 he with he | he
   · exact ⟨k1 (h.nodes e he).1,(h.nodes e he).2⟩
   · rw [List.mem_singleton.1 he];exact ⟨k1 hd,hl⟩
 · rcases List.mem_append.1 he with he | he
   · exact ⟨k2 (h.cu e he x hx').1,(h.cu e he x hx').2⟩
   · rw [List.mem_singleton.1 he] at hx';exact ⟨k2 (hx x hx').1,(hx x hx').2⟩
 · refine List.pairwise_append.2 ⟨h.apart,List.pairwise_singleton _ _,fun a ha b hb=>?_⟩;rw [List.mem_singleton.1 hb];exact hap a ha
end
theorem bR (v:Value):(Tryz.prog.info? 28).map (·.size)=some (#[v]:Array Value).size:=by show _=some 1;kernel_rfl
theorem JS (nx:Int) (v:Value):(Tryz.prog.info? 142).map (·.size)=some (dvC nx v).size:=by show _=some 2;kernel_rfl
theorem Fj {fn:Func} {i:Nat} (h:fn.results=#[.cell i 28]) (tmps:Array Value) (w:World) (g:Nat) (v:Value) (hp:tmps.getD i undef= .pointer (some ⟨g,0,none⟩)) (hg:Blk w g 28 #[v]):
  (results fn tmps).run Tryz.prog w= .ok (.agg #[v]) w:=
 results_cell_row h tmps w g _ #[v] (0,0) _ hp hg Tryz.underlying28 rfl (by show _=some 1;kernel_rfl)
def yU (f:List Dv) (w:World) (e:Ending) (w' :World):Prop:=
 ∃ (v:Value) (ds:List Dm),e= .returned (.agg #[v])∧aC w' w.heap.size v ds∧ds.map Dm.dv=f∧Below w.heap.size w w'
structure CpS (w wr:World) (A:Option Addr) (n c:Nat) (ds:List Dm) (j:Nat):Prop where
 low:Below w.heap.size w wr
 src:bZ wr w.heap.size A ds
 arg:Blk wr w.heap.size 28 #[.slice A n c]
 res:Blk wr (w.heap.size+1) 28 #[.slice none 0 0]
 o:∃ (v:Value) (es:List Dm),Blk wr (w.heap.size+1+1) 28 #[v]∧aC wr (w.heap.size+1+1+1) v es∧es.map Dm.dv=(ds.take j).map Dm.dv
structure CnS (ws wr:World) (nx:Int) (xs:List Nm) (k:Nat):Prop where
 low:Below ws.heap.size ws wr
 o:∃ (v:Value) (ys:List Nm),Blk wr ws.heap.size 142 (dvC nx v)∧ax ENd wr (ws.heap.size+1) v ys∧ys.map (·.nd)=(xs.take k).map (·.nd)∧∀ y∈ys,ax EEn wr (ws.heap.size+1) y.sl y.nd.es
theorem Cv {ys xs:List Nm} {k:Nat} (h:ys.map (·.nd)=(xs.take k).map (·.nd)):ys.length=min k xs.length:=by
 have:=congrArg List.length h;simpa using this
theorem Cw {ys xs:List Nm} {k:Nat} (h:ys.map (·.nd)=(xs.take k).map (·.nd)) (hk:k < xs.length) (A:Option Addr) (c:Nat):(ys ++ [(⟨xs[k].nd,A,c⟩:Nm)]).map (·.nd)=(xs.take (k+1)).map (·.nd):=by
 rw [List.map_append,h,List.take_succ_eq_append_getElem hk,List.map_append];rfl
theorem Cx {es ds:List Dm} {k:Nat} (h:es.map Dm.dv=(ds.take k).map Dm.dv) (hk:k < ds.length) {ys:List Nm} (hy:ys.map (·.nd)=ds[k].xs.map (·.nd)) (A:Option Addr) (c:Nat):(es ++ [(⟨ds[k].nx,ys,A,c⟩:Dm)]).map Dm.dv=(ds.take (k+1)).map Dm.dv:=by
 rw [List.map_append,h,List.take_succ_eq_append_getElem hk,List.map_append];congr 1;show [(⟨ds[k].nx,ys.map (·.nd)⟩:Dv)]= [(⟨ds[k].nx,ds[k].xs.map (·.nd)⟩:Dv)];rw [hy]
theorem CpS.grow {w wr w' :World} {A:Option Addr} {n c:Nat} {ds:List Dm} {j:Nat} (h:CpS w wr A n c ds j) (hb:Below wr.heap.size wr w'):CpS w w' A n c ds j:=by
 obtain ⟨v,es,h1,h2,h3⟩:=h.o;exact ⟨h.low.trans (hb.mono h.low.size),h.src.keep hb h.low.size,h.arg.below hb,h.res.below hb,v,es,h1.below hb,h2.below hb,h3⟩
theorem jX (ds:List Dm) (A:Option Addr) (n c:Nat) (hn:n=ds.length) (w:World) (h:bZ w w.heap.size A ds):
  Calls Tryz.prog 171 #[fsV A n c] w (yU (ds.map Dm.dv) w):=by
 have HN:=Hd hn;have hs1:(w.alloc (.cells #[.slice A n c] 28)).heap.size=w.heap.size+1:=by simp
 have hs2:((w.alloc (.cells #[.slice A n c] 28)).alloc (.cells #[.slice none 0 0] 28)).heap.size=w.heap.size+1+1:=by simp
 have hs3:(((w.alloc (.cells #[.slice A n c] 28)).alloc (.cells #[.slice none 0 0] 28)).alloc (.cells #[.slice none 0 0] 28)).heap.size=w.heap.size+1+1+1:=by simp
 have B0:Below w.heap.size w (((w.alloc (.cells #[.slice A n c] 28)).alloc (.cells #[.slice none 0 0] 28)).alloc (.cells #[.slice none 0 0] 28)):=(((Below.refl w.heap.size w).alloc (Nat.le_refl _) _).alloc (by rw [hs1];omega) _).alloc (by rw [hs2];omega) _;have S0:=Hd (show CpS w (((w.alloc (.cells #[.slice A n c] 28)).alloc (.cells #[.slice none 0 0] 28)).alloc (.cells #[.slice none 0 0] 28)) A n c ds 0 from
  ⟨B0,h.keep B0 (Nat.le_refl _),((Blk.new w #[.slice A n c] 28).alloc _).alloc _,by
   have:=(Blk.new (w.alloc (.cells #[.slice A n c] 28)) #[.slice none 0 0] 28).alloc (.cells #[.slice none 0 0] 28);rw [hs1] at this;exact this, .slice none 0 0, [],by
   have:=Blk.new ((w.alloc (.cells #[.slice A n c] 28)).alloc (.cells #[.slice none 0 0] 28)) #[.slice none 0 0] 28;rw [hs2] at this;exact this,aC.nil _ _,rfl⟩)
 have Nq:=Hd h.few;clear h hn B0 hs1 hs2 hs3;go_in;go_wp2_with fail;generalize (((w.alloc (.cells #[.slice A n c] 28)).alloc (.cells #[.slice none 0 0] 28)).alloc (.cells #[.slice none 0 0] 28))=w0 at *;go_loopw [4] (fun i wr=>∃ j:Nat,j≤ds.length∧i= .int .i64 j∧Hid (CpS w wr A n c ds j)) (fun i _=>ds.length - (intOf i).toNat);case atStart=>exact ⟨0,Nat.zero_le _,rfl,S0⟩
 case round=>
  clear S0;generalize wr=ws at *;obtain ⟨j,hj,rfl,HS⟩:=hrel;have a0:=HS.o.arg.cell 0;have oO:=Nq.o;have wj1:wrap64 ((j:Int)+1)=(j:Int)+1:=IntWalk.wrap64_in _ (by omega);have wj2:IntKind.i64.wrap ((j:Int)+1)=(j:Int)+1:=IntWalk.i64_in _ (by omega);by_cases hlt:j < ds.length;case pos=>
   have j1:(j:Int) < (n:Int):=(by rw [HN.o];omega);have j2:(0:Int)≤(j:Int):=(by omega);have HD:=Hd (HS.o.src.nodes ds[j] (List.getElem_mem hlt));have HE:=Hd (HS.o.src.cu ds[j] (List.getElem_mem hlt));obtain ⟨ad,rfl,hab,hcx⟩:=HS.o.src.at_ j hlt;obtain ⟨s0,s1⟩:=bO (a:=ad.add (j * 2)) hcx;have HTK:=Hd (fun (es:List Dm) (he:es.map Dm.dv=(ds.take j).map Dm.dv) (ys:List Nm) (hy:ys.map (·.nd)=ds[j].xs.map (·.nd)) (A' :Option Addr) (c' :Nat)=>Cx he hlt hy A' c');have PD:=Hd (show AtE EDv ws w.heap.size (some ad) ds from HS.o.src.at_);clear hcx;obtain ⟨d,hdj⟩:∃ d,d=ds[j]:=⟨_,rfl⟩;have HDJ:=Hd hdj;rw [← hdj] at HD HE HTK s0 s1;clear hdj;have C0:=Hd (show CnS ws (ws.alloc (.cells (dvC d.nx (.slice none 0 0)) 142)) d.nx d.xs 0 from ⟨(Below.refl ws.heap.size ws).alloc (Nat.le_refl _) _, .slice none 0 0, [],Blk.new ws _ _,ax.nil _ _,rfl,fun _ h=>by cases h⟩);go_wp2_with fail;generalize ws.alloc (.cells (dvC d.nx (.slice none 0 0)) 142)=w5 at *;clear a0 s0 s1;go_loopw [6] (fun i wr=>∃ k:Nat,k≤d.xs.length∧i= .int .i64 k∧Hid (CnS ws wr d.nx d.xs k)) (fun i _=>d.xs.length - (intOf i).toNat);case atStart=>exact ⟨0,Nat.zero_le _,rfl,C0⟩
   case round=>
    clear C0;obtain ⟨k,hk,rfl,HC⟩:=hrel;have T:=Hd (HS.o.grow HC.o.low);have a0:=T.o.arg.cell 0;obtain ⟨ad',e0,hab',hcx⟩:=T.o.src.at_ j hlt;injection e0 with e0;subst e0;obtain ⟨s0,s1⟩:=bO (a:=ad.add (j * 2)) hcx;rw [← HDJ.o] at s0 s1;clear hcx;have LY:=HD.o.2;have wk1:wrap64 ((k:Int)+1)=(k:Int)+1:=IntWalk.wrap64_in _ (by omega);have wk2:IntKind.i64.wrap ((k:Int)+1)=(k:Int)+1:=IntWalk.i64_in _ (by omega);by_cases hkl:k < d.xs.length;case pos=>
     have k1:(k:Int) < (d.xs.length:Int):=(by omega);have k2:(0:Int)≤(k:Int):=(by omega);have HXE:=Hd (show AtE EEn wr w.heap.size d.xs[k].A d.xs[k].nd.es∧jg d.xs[k].nd by
      have h:=T.o.src.cu ds[j] (List.getElem_mem hlt);rw [← HDJ.o] at h;exact h _ (List.getElem_mem hkl))
     obtain ⟨bd,hbd,hbb,hcy⟩:=(show AtE ENd wr w.heap.size d.A d.xs by
      have h:=(T.o.src.nodes ds[j] (List.getElem_mem hlt)).1;rw [← HDJ.o] at h;exact h) k hkl
     obtain ⟨t0,t1,t2,t3,t4,t5,t6,t7⟩:=dh (a:=bd.add (k * 8)) hcy;obtain ⟨v,ys,hvb,hvo,hys,hye⟩:=HC.o.o;have VB:=Hd hvb;have VO:=Hd hvo;have HYS:=Hd (fun (A' :Option Addr) (c' :Nat)=>Cw hys hkl A' c');have HYL:=Hd (show ys.length≤1000 by rw [Cv hys];omega);have HYE:=Hd hye;have uw:=Hd HC.o.low;clear hcy hvb hvo hys hye HC;generalize d.xs[k]=x at *;rw [hbd] at s1;have B3:=Hd (uw.o.alloc uw.o.size (.cells (ndC x.nd (.slice x.A x.nd.es.length x.c)) 145));have X3:=Hd (Blk.new wr (ndC x.nd (.slice x.A x.nd.es.length x.c)) 145);have VB3:=Hd (VB.o.alloc (.cells (ndC x.nd (.slice x.A x.nd.es.length x.c)) 145));have VO3:=Hd (VO.o.alloc (.cells (ndC x.nd (.slice x.A x.nd.es.length x.c)) 145));have LZ:=Hd (fun y hy=>(HYE.o y hy).alloc (.cells (ndC x.nd (.slice x.A x.nd.es.length x.c)) 145));have Ma:=Hd (HXE.o.1.keep ((Below.refl wr.heap.size wr).alloc (Nat.le_refl _) (.cells (ndC x.nd (.slice x.A x.nd.es.length x.c)) 145)) (by have:=T.o.low.size;exact this));have HXL:=Hd HXE.o.2;have HVX:=Hd (fun r (e:v.ownBlock=some r)=>VO.o.lt r e);have HYX:=Hd (fun y hy r (e:y.sl.ownBlock=some r)=>(HYE.o y hy).lt r e);have HGX:ws.heap.size < wr.heap.size:=VB.o.lt;have HGW:w.heap.size≤ws.heap.size:=HS.o.low.size;go_upto_region 10 with fail;clear a0 s0 s1 t0 t1 t2 t3 t4 t5 t6 t7;have hs3:(wr.alloc (.cells (ndC x.nd (.slice x.A x.nd.es.length x.c)) 145)).heap.size=wr.heap.size+1:=(by simp);generalize wr.alloc (.cells (ndC x.nd (.slice x.A x.nd.es.length x.c)) 145)=w3 at *;have x7:=X3.o.cell 7;go_wp2_with (refine aj EEn rfl (.const (.slice none 0 0)) (.tmp 43) rfl (ws.heap.size+1) (.slice none 0 0) [] rfl (ax.nil _ _) w.heap.size x.A x.nd.es.length x.c x.nd.es rfl rfl Ma.o (by simp;have:=HXL.o.1;omega) (by omega) ?_);intro v6 w6 ho6 hg6 iR;have ho6:ax EEn w6 (ws.heap.size+1) v6 x.nd.es:=ho6;clear x7;have hnone:∀ {g:Nat},(Value.slice none 0 0).ownBlock≠some g:=fun e=>by cases e
     have X6:=Hd (X3.o.grown hg6 hnone);have B6:=Hd (B3.o.grown hg6 B3.o.size (fun k e=>by cases e));have VB6:=Hd (VB3.o.grown hg6 hnone);have VO6:=Hd (VO3.o.far hg6 (fun k _ e=>hnone e));have Mc:=Hd (fun y hy=>(LZ.o y hy).far hg6 (fun k _ e=>hnone e));obtain ⟨A6,c6,rfl,_⟩:=ho6.at;have Fp:(Value.slice A6 x.nd.es.length c6).ownBlock≠some wr.heap.size:=fun e=>by
      rcases iR with h | h
      · rw [h] at e;exact hnone e
      · rw [h] at e;injection e with e;omega
     have hgc:=av w6 wr.heap.size 7 (.slice A6 x.nd.es.length c6);have X7:=Hd (show Blk (w6.setCell ⟨wr.heap.size,7,none⟩ (.slice A6 x.nd.es.length c6)) wr.heap.size 145 (ndC x.nd (.slice A6 x.nd.es.length c6)) from X6.o.put 7 _);have B7:=Hd (B6.o.setCell (p:=⟨wr.heap.size,7,none⟩) (by show ws.heap.size≤wr.heap.size;omega) (.slice A6 x.nd.es.length c6));have VB7:=Hd (VB6.o.grown hgc (fun e=>by injection e with e;omega));have VO7:=Hd (VO6.o.far hgc (fun k e r=>by injection r with r;have:=HVX.o k e;omega));have Nr:=Hd (fun y hy=>(Mc.o y hy).far hgc (fun k e r=>by injection r with r;have:=HYX.o y hy k e;omega));have HO7:=Hd (ho6.far hgc (fun k e r=>by injection r with r;subst r;exact Fp e));have x7:=X6.o.cell 7;have y7:=X6.o.free 7;clear X3 B3 VB3 VO3 LZ Ma hs3 ho6 hg6 iR Fp hgc X6 B6 VB6 VO6 Mc;go_upto_region 11 with fail;clear x7 y7;generalize w6.setCell ⟨wr.heap.size,7,none⟩ (.slice A6 x.nd.es.length c6)=w7 at *;have v1:=VB7.o.cell 1;have RW:=Hd (aI ENd w7 (ndC x.nd (.slice A6 x.nd.es.length c6)) 145 ⟨x.nd,A6,c6⟩ rfl (Nat.lt_succ_self w7.heap.size));have B8:=Hd (B7.o.alloc B7.o.size (.cells (ndC x.nd (.slice A6 x.nd.es.length c6)) 145));have VB8:=Hd (VB7.o.alloc (.cells (ndC x.nd (.slice A6 x.nd.es.length c6)) 145));have VO8:=Hd (VO7.o.alloc (.cells (ndC x.nd (.slice A6 x.nd.es.length c6)) 145));have JU:=Hd (fun y hy=>(Nr.o y hy).alloc (.cells (ndC x.nd (.slice A6 x.nd.es.length c6)) 145));have HO8:=Hd (HO7.o.alloc (.cells (ndC x.nd (.slice A6 x.nd.es.length c6)) 145));have hl7:ws.heap.size < w7.heap.size:=VB7.o.lt;go_wp2_with (first | ((with_reducible refine az ?_ 145 (.tmp 7) ?_ X7.o ?_ _ Tryz.underlying145 ?_ ?_ ?_);(iterate 4 rfl);exact gY _ _) | (refine aj ENd rfl (.tmp 47) (.tmp 49) rfl (ws.heap.size+1) v ys rfl VO8.o (w7.heap.size+1) (some ⟨w7.heap.size,0,none⟩) 1 1 [⟨x.nd,A6,c6⟩] rfl rfl RW.o (by have:=HYL.o;simp;omega) (by simp;omega) ?_));intro v9 w9 ho9 hg9 qO;clear v1;obtain ⟨A9,c9,e9,_⟩:=ho9.at;rw [show (ys ++ [(⟨x.nd,A6,c6⟩:Nm)]).length=ys.length+1 by simp] at e9;subst e9;have hvb:v.ownBlock≠some ws.heap.size:=fun e=>by have:=VO8.o.ge _ e;omega
     have VB9:=Hd (VB8.o.grown hg9 hvb);have c1:=VB9.o.cell 1;have f1:=VB9.o.free 1;have hgc:=av w9 ws.heap.size 1 (.slice A9 (ys.length+1) c9);have HC9:=Hd (show CnS ws (w9.setCell ⟨ws.heap.size,1,none⟩ (.slice A9 (ys.length+1) c9)) d.nx d.xs (k+1) from
      ⟨(B8.o.grown hg9 B8.o.size (fun q e=>by have:=VO8.o.ge _ e;omega)).setCell (p:=⟨ws.heap.size,1,none⟩) (Nat.le_refl _) _,
        .slice A9 (ys.length+1) c9,ys ++ [(⟨x.nd,A6,c6⟩:Nm)],VB9.o.put 1 _,ho9.far hgc (fun q e r=>by injection r with r;have:=ho9.ge _ e;omega),HYS.o A6 c6,fun y hy=>by
         rcases List.mem_append.1 hy with hy | hy
         · exact ((JU.o y hy).far hg9 (fun q e r=>aB (JU.o y hy) VO8.o (show (209:Nat)≠145 by decide) q e r)).far hgc (fun q e r=>by injection r with r;have:=(JU.o y hy).ge _ e;omega)
         · rw [List.mem_singleton.1 hy];exact (HO8.o.far hg9 (fun q e r=>aB HO8.o VO8.o (show (209:Nat)≠145 by decide) q e r)).far hgc (fun q e r=>by injection r with r;have:=HO8.o.ge _ e;omega)⟩)
     clear ho9 hg9 qO hvb hgc;go_wp2_with fail;go_roundw;case rel=>exact ⟨k+1,by omega,by go_num,HC9⟩
     case measure=>simp [intOf];omega
    case neg=>
     have k1:¬ (k:Int) < (d.xs.length:Int):=(by omega);obtain ⟨bd,hbd⟩:∃ bd,bd=d.A:=⟨_,rfl⟩;obtain ⟨v,ys,hvb,hvo,hys,hye⟩:=HC.o.o;rw [List.take_of_length_le (by omega)] at hys;obtain ⟨Av,cv,rfl,_⟩:=hvo.at;obtain ⟨vo,es,hob,hof,hoe⟩:=HS.o.o;obtain ⟨Ao,co,rfl,_⟩:=hof.own.at;have hgw:w.heap.size+1+1 < ws.heap.size:=hob.lt;have hlow:=HC.o.low;have JV:=hof.below hlow;have Jm:=hob.below hlow;have hyl:ys.length≤1000:=(by have:=congrArg List.length hys;simp at this;omega);have hel:es.length=j:=(by have:=congrArg List.length hoe;simp at this;omega);have HVB:=Hd hvb;have RW:=Hd (aI EDv wr (dvC d.nx (.slice Av ys.length cv)) 142 ⟨d.nx,ys,Av,cv⟩ rfl (Nat.lt_succ_self wr.heap.size));have HFA:=Hd (JV.own.alloc (.cells (dvC d.nx (.slice Av ys.length cv)) 142));have hba:=(Below.refl wr.heap.size wr).alloc (Nat.le_refl _) (.cells (dvC d.nx (.slice Av ys.length cv)) 142);have HEL:=Hd hel;have HWS:ws.heap.size < wr.heap.size:=hvb.lt;have Md:=Hd (fun (v9:Value) (w9:World) (ho9:ax EDv w9 (w.heap.size+1+1+1) v9 (es ++ [(⟨d.nx,ys,Av,cv⟩:Dm)])) (hg9:(wr.alloc (.cells (dvC d.nx (.slice Av ys.length cv)) 142)).grownBy w9 (Value.slice Ao es.length co).ownBlock)=>
      (JV.below hba).app (d:=⟨d.nx,ys,Av,cv⟩) ((hvo.alloc _).low (by omega)) hyl (fun y hy=>⟨((hye y hy).alloc _).low (by omega),by
        have h1:y.nd∈ys.map (·.nd):=List.mem_map.2 ⟨y,hy,rfl⟩;rw [hys] at h1;obtain ⟨z,hz,e⟩:=List.mem_map.1 h1;rw [← e];exact (HE.o z hz).2⟩) (fun d' hd' g e r=>by
        have h1:=(hof.nodes d' hd').1.lt g e;have h2:=hvo.ge g r;omega) ho9 hg9 (by omega))
     have HDV:=Hd (HTK.o es hoe ys hys Av cv);have HOB:=Hd (Jm.alloc (.cells (dvC d.nx (.slice Av ys.length cv)) 142));have HGE:=Hd (fun q (e:(Value.slice Ao es.length co).ownBlock=some q)=>hof.own.ge q e);have c0:=Jm.cell 0;have f0:=Jm.free 0;clear hvb hvo hys hye hob hof hoe hlow JV Jm HC hyl hel hba;go_wp2_with (first | ((with_reducible refine az ?_ 142 (.tmp 5) ?_ HVB.o ?_ _ Tryz.underlying142 ?_ ?_ ?_);(iterate 4 rfl);exact JS _ _) | (refine aj EDv rfl (.tmp 53) (.tmp 55) rfl (w.heap.size+1+1+1) (.slice Ao es.length co) es rfl HFA.o (wr.heap.size+1) (some ⟨wr.heap.size,0,none⟩) 1 1 [⟨d.nx,ys,Av,cv⟩] rfl rfl RW.o (by have:=HEL.o;simp;omega) (by simp;omega) ?_));intro v9 w9 ho9 hg9 qO;obtain ⟨A9,c9,e9,_⟩:=ho9.at;rw [show (es ++ [(⟨d.nx,ys,Av,cv⟩:Dm)]).length=es.length+1 by simp] at e9;subst e9;clear a0 s0 s1 c0 f0;have hne:∀ g,g≤w.heap.size+1+1→(Value.slice Ao es.length co).ownBlock≠some g:=fun g hg e=>by have:=HGE.o g e;omega
     have HO9:=Hd (HOB.o.grown hg9 (hne _ (Nat.le_refl _)));have c0:=HO9.o.cell 0;have f0:=HO9.o.free 0;have hbz:Below w.heap.size wr (w9.setCell ⟨w.heap.size+1+1,0,none⟩ (.slice A9 (es.length+1) c9)):=
      ((((Below.refl w.heap.size wr).alloc (by omega) (.cells (dvC d.nx (.slice Av ys.length cv)) 142)).grown hg9 (by simp;omega) (fun q e=>by have:=HGE.o q e;omega)).setCell (p:=⟨w.heap.size+1+1,0,none⟩) (by show w.heap.size≤w.heap.size+1+1;omega) _)
     have HN9:=Hd (show CpS w (w9.setCell ⟨w.heap.size+1+1,0,none⟩ (.slice A9 (es.length+1) c9)) (some ad) n c ds (j+1) from
      ⟨T.o.low.trans hbz,T.o.src.keep hbz (Nat.le_refl _),((T.o.arg.alloc _).grown hg9 (hne _ (by omega))).af _ (by show w.heap.size≠w.heap.size+1+1;omega),((T.o.res.alloc _).grown hg9 (hne _ (by omega))).af _ (by show w.heap.size+1≠w.heap.size+1+1;omega),
        .slice A9 (es.length+1) c9,es ++ [(⟨d.nx,ys,Av,cv⟩:Dm)],HO9.o.put 0 _,by
         have hf:=Md.o _ _ ho9 hg9;exact hf.far (av w9 (w.heap.size+1+1) 0 _) (fun q e=>by injection e with e;subst e;exact hf.old (by omega)),HDV.o⟩)
     clear ho9 hg9 qO hbz hne Md;go_wp2_with fail;go_roundw;case rel=>exact ⟨j+1,by omega,by go_num,HN9⟩
     case measure=>simp [intOf];omega
  case neg=>
   have j1:¬ (j:Int) < (n:Int):=(by rw [HN.o];omega);obtain ⟨v,es,hob,hof,hoe⟩:=HS.o.o;rw [List.take_of_length_le (by omega)] at hoe;obtain ⟨Ao,co,rfl,_⟩:=hof.own.at;have HOB:=Hd hob;have Fq:=Hd HS.o.res;have uw:=Hd HS.o.low;have HFF:=Hd (hof.far (aA ws (w.heap.size+1) #[.slice Ao es.length co]) (fun q e=>by injection e with e;subst e;exact hof.old (by omega)));have HOE:=Hd hoe;clear hob hof hoe HS;go_wp2_with (first | ((with_reducible refine az ?_ 28 (.tmp 3) ?_ HOB.o ?_ _ Tryz.underlying28 ?_ ?_ ?_);(iterate 4 rfl);exact bR _) | ((with_reducible refine ae ?_ 28 (.tmp 2) (.tmp 58) ?_ Fq.o #[.slice Ao es.length co] ?_ ?_ ?_ ?_ ?_ ?_);(iterate 4 rfl);(exact bR _);rfl;(simp [Value.oneCell'])));refine bodyPost_ret (Fj (fn:=Tryz.f171) rfl _ _ (w.heap.size+1) (.slice Ao es.length co) rfl (Blk.row Fq.o _)) rfl ?_;exact ⟨_,es,rfl,HFF.o.low (by omega),HOE.o,ai uw.o (by omega) _⟩
section
variable {α:Type} {E:El α} {w:World} {base g n c:Nat} {L:List α}
theorem El.kG (E:El α) {x' :α} {j:Nat} {u:Value} :∀ (L:List α) (k:Nat) (hk:k < L.length),E.C x' =(E.C (L[k]'hk)).set j u→j < E.sz→(L.flatMap E.C).set (k * E.sz+j) u=(L.set k x').flatMap E.C
 | [],k,hk,_,_=>by simp at hk
 | p :: L,0,hk,h,hj=>by
  rw [List.flatMap_cons,List.set_cons_zero,List.flatMap_cons,Nat.zero_mul,Nat.zero_add,List.set_append_left _ _ (by rw [E.len];exact hj),h];rfl
 | p :: L,k+1,hk,h,hj=>by
  have ih:=El.kG E L k (by simp at hk;omega) h hj;have e:(k+1) * E.sz+j=E.sz+(k * E.sz+j):=by rw [Nat.succ_mul];omega
  rw [List.flatMap_cons,List.set_cons_succ,List.flatMap_cons,e,List.set_append_right _ _ (by rw [E.len];omega),E.len,show E.sz+(k * E.sz+j) - E.sz=k * E.sz+j by omega,ih]
theorem ax.put (h:ax E w base (.slice (some ⟨g,0,none⟩) n c) L) {k j:Nat} {u:Value} {x' :α} (hk:k < L.length) (hj:j < E.sz) (hx:E.C x' =(E.C (L[k]'hk)).set j u):
  ax E (w.setCell ⟨g,k * E.sz+j,none⟩ u) base (.slice (some ⟨g,0,none⟩) n c) (L.set k x'):=by
 have hl:L.length=n:=by
  obtain ⟨A,c',e,_⟩:=h.at;injection e with _ e _;exact e.symm
 have h2:=World.ownsRow.stored (show w.ownsRow base E.e E.sz (.slice (some ⟨g,0,none⟩) n c) n (L.flatMap E.C) by rw [← hl];unfold ax at h;rw [hl] at h ⊢;exact h) (k * E.sz+j) u;rw [El.kG E L k hk hx hj] at h2;unfold ax;rw [List.length_set,hl];exact h2.1
theorem ax.free (h:ax E w base (.slice (some ⟨g,0,none⟩) n c) L) (j:Nat):w.frozen? ⟨g,j,none⟩=false:=by
 have hl:L.length=n:=by
  obtain ⟨A,c',e,_⟩:=h.at;injection e with _ e _;exact e.symm
 exact World.ownsRow.frozenAt (show w.ownsRow base E.e E.sz (.slice (some ⟨g,0,none⟩) n c) n (L.flatMap E.C) by unfold ax at h;rw [hl] at h;exact h) j
theorem aW {A:Option Addr} (h:ax E w base (.slice A n c) L) (h0:0 < L.length):∃ g,A=some ⟨g,0,none⟩∧base≤g∧g < w.heap.size∧n=L.length:=by
 rcases Joins.ownsRow_forms h with ⟨e,e0⟩ | ⟨g,cap,e⟩
 · omega
 · injection e with e1 e2 _;subst e1;exact ⟨g,rfl,h.ge g rfl,h.lt g rfl,e2⟩
end
section
variable {w w' :World} {base:Nat} {v:Value} {ds:List Dm}
def mf (f:List Dv) (j:Nat) (h:Dv→Dv):List Dv:=f.modify j h
theorem jE (ds:List Dm) (j:Nat) (hj:j < ds.length) (d' :Dm) (h:Dv→Dv) (e:d'.dv=h (ds[j].dv)):(ds.set j d').map Dm.dv=mf (ds.map Dm.dv) j h:=by
 unfold mf;apply List.ext_getElem
 · simp
 · intro i h1 h2;simp only [List.getElem_map,List.getElem_set,List.getElem_modify];by_cases hij:j=i
   · subst hij;simp [e]
   · simp [hij]
theorem iA {α:Type} {l:List α} {j:Nat} {x y:α} (h:y∈l.set j x):y=x∨y∈l:=by
 rcases List.mem_or_eq_of_mem_set h with h | h
 · exact .inr h
 · exact .inl h
theorem aC.JW (h:aC w base v ds) {j:Nat} (hj:j < ds.length) {d' :Dm} {row:Option Nat} (hg:w.grownBy w' row)
   (hv:ax EDv w' base v (ds.set j d')) (hd:ax ENd w' base d'.sl d'.xs∧d'.xs.length≤1000) (hx:∀ x∈d'.xs,ax EEn w' base x.sl x.nd.es∧jg x.nd)
   (hn:∀ i (hi:i < ds.length),i≠j→∀ g,ds[i].sl.ownBlock=some g→row≠some g∧d'.sl.ownBlock≠some g) (he:∀ d∈ds,∀ x∈d.xs,∀ g,x.sl.ownBlock=some g→row≠some g):aC w' base v (ds.set j d'):=by
 have hin:∀ d∈ds.set j d',d=d' ∨∃ i,∃ hi:i < ds.length,i≠j∧d=ds[i]:=fun d hd=>by
   obtain ⟨i,hi,e⟩:=List.getElem_of_mem hd;rw [List.length_set] at hi;rw [List.getElem_set] at e;split at e
   · exact .inl e.symm
   · rename_i hne;exact .inr ⟨i,hi,fun e=>hne e.symm,e.symm⟩
 refine ⟨hv,by rw [List.length_set];exact h.few,fun d hd' =>?_,fun d hd' x hx' =>?_,?_⟩
 · rcases hin d hd' with rfl | ⟨i,hi,hne,rfl⟩
   · exact hd
   · exact ⟨(h.nodes _ (List.getElem_mem hi)).1.far hg (fun k e r=>(hn i hi hne k e).1 r),(h.nodes _ (List.getElem_mem hi)).2⟩
 · rcases hin d hd' with rfl | ⟨i,hi,hne,rfl⟩
   · exact hx x hx'
   · exact ⟨(h.cu _ (List.getElem_mem hi) x hx').1.far hg (fun k e r=>he _ (List.getElem_mem hi) x hx' k e r),(h.cu _ (List.getElem_mem hi) x hx').2⟩
 · have ha:=List.pairwise_iff_getElem.1 h.apart;refine List.pairwise_iff_getElem.2 fun i k hi hk hik g hgi hgk=>?_;rw [List.length_set] at hi hk;rw [List.getElem_set] at hgi hgk;split at hgi
   · split at hgk
     · omega
     · rename_i h1 h2;exact (hn k hk (fun e=>h2 e.symm) g hgk).2 hgi
   · split at hgk
     · rename_i h1 h2;exact (hn i hi (fun e=>h1 e.symm) g hgi).2 hgk
     · exact ha i k hi hk hik g hgi hgk
theorem aC.other (h:aC w base v ds) {i j:Nat} (hi:i < ds.length) (hj:j < ds.length) (hne:i≠j) {g:Nat} (e:ds[i].sl.ownBlock=some g):ds[j].sl.ownBlock≠some g:=by
 have ha:=List.pairwise_iff_getElem.1 h.apart;rcases Nat.lt_or_ge i j with hlt | hge
 · exact ha i j hi hj hlt g e
 · exact fun e2=>ha j i hj hi (by omega) g e2 e
theorem aC.Me (h:aC w base v ds) {j k i g:Nat} {u:Value} (hj:j < ds.length) (hk:k < ds[j].xs.length) (hA:ds[j].A=some ⟨g,0,none⟩) {x' :Nm} (hi:i < 8) (hx:ENd.C x' =(ENd.C (ds[j].xs[k])).set i u) (hsz:jg x'.nd)
   (ho:ax EEn w base x'.sl x'.nd.es):aC (w.setCell ⟨g,k * 8+i,none⟩ u) base v (ds.set j ⟨ds[j].nx,ds[j].xs.set k x',ds[j].A,ds[j].c⟩):=by
 have hd:=(h.nodes _ (List.getElem_mem hj));have hown:(ds[j].sl).ownBlock=some g:=by show (Value.slice ds[j].A _ _).ownBlock=_;rw [hA];rfl
 have hgc:=av w g (k * 8+i) u;have hne:∀ {x:Nm},ax EEn w base x.sl x.nd.es→∀ q,x.sl.ownBlock=some q→some g≠some q:=fun {x} hx q e r=>by
   injection r with r;subst r;exact aB hx hd.1 (show (209:Nat)≠145 by decide) _ e hown
 have hv:ax EDv (w.setCell ⟨g,k * 8+i,none⟩ u) base v (ds.set j ⟨ds[j].nx,ds[j].xs.set k x',ds[j].A,ds[j].c⟩):=by
   have h1:=h.own.far hgc (fun q e r=>by
     injection r with r;subst r;exact aB h.own hd.1 (show (142:Nat)≠145 by decide) _ e hown)
   have e:(ds.set j ⟨ds[j].nx,ds[j].xs.set k x',ds[j].A,ds[j].c⟩).flatMap EDv.C=ds.flatMap EDv.C:=by
     have:=El.kG EDv (x' :=⟨ds[j].nx,ds[j].xs.set k x',ds[j].A,ds[j].c⟩) (j:=0) (u:= .int .i64 ds[j].nx) ds j hj (by show _=List.set [_,_] 0 _;simp [EDv]) (by show 0 < 2;omega);rw [← this];refine List.ext_getElem? fun q=>?_;rw [List.getElem?_set];split
     · rename_i hq;subst hq;have hf:=EDv.dX ds j hj 0 (by show 0 < 2;omega);split
       · rw [hf];rfl
       · rename_i hlt;rw [List.getElem?_eq_none (by omega)]
     · rfl
   unfold ax at h1 ⊢;rw [e,List.length_set];exact h1
 refine h.JW hj hgc hv ⟨?_,?_⟩ ?_ ?_ ?_
 · show ax ENd _ base (.slice ds[j].A (ds[j].xs.set k x').length ds[j].c) (ds[j].xs.set k x');have h1:ax ENd w base (.slice ds[j].A ds[j].xs.length ds[j].c) ds[j].xs:=hd.1;rw [hA] at h1 ⊢;rw [List.length_set];exact h1.put hk (by show i < 8;exact hi) hx
 · show (ds[j].xs.set k x').length≤1000;rw [List.length_set];exact hd.2
 · intro y hy;rcases iA hy with rfl | hy
   · exact ⟨ho.far hgc (fun q e r=>hne ho q e r),hsz⟩
   · have h2:=h.cu _ (List.getElem_mem hj) y hy;exact ⟨h2.1.far hgc (fun q e r=>hne h2.1 q e r),h2.2⟩
 · intro q hq hqj g' e;refine ⟨fun r=>?_,?_⟩
   · injection r with r;subst r;exact h.other hq hj hqj e hown
   · intro r;exact h.other hq hj hqj e (by
       have r:(Value.slice ds[j].A (ds[j].xs.set k x').length ds[j].c).ownBlock=some g' :=r;show (Value.slice ds[j].A _ _).ownBlock=_;rw [hA] at r ⊢;exact r)
 · intro d hd' x hx' q e r;exact hne (h.cu d hd' x hx').1 q e r
end
def geB (a b:ByteArray):Bool:= !(Op.bytesLess a.toList b.toList)
def gz (nm:ByteArray) (new:Int):Bool→List En→List En
 | b, []=>if b then [] else [⟨nm,new⟩]
 | b,e :: r=>(if !b && geB e.nm nm then [⟨nm,new⟩] else []) ++ ((if e.nm.toList == nm.toList then [] else [e]) ++ gz nm new (b || geB e.nm nm) r)
def oP (nm:ByteArray) (new:Int) (n:Nd):Nd:= { n with es:=gz nm new (new == 0) n.es }
def uQ (d:Dv) (k:Nat) (h:Nd→Nd):Dv:= { d with ns:=d.ns.modify k h }
def iT (f:List Dv) (dev ino:Int) (nm:ByteArray) (new:Int):List Dv:=
 match fD f dev ino with
 | some k=>mf f dev.toNat (fun d=>uQ d k (oP nm new))
 | none=>f
theorem nG (nm:ByteArray) (new:Int):∀ (b:Bool) (l:List En),(gz nm new b l).length≤l.length+1∧(b=true→(gz nm new b l).length≤l.length)
 | true, []=>⟨Nat.zero_le _,fun _=>Nat.zero_le _⟩
 | false, []=>⟨Nat.le_refl _,fun h=>by cases h⟩
 | b,e :: r=>by
  have h1:=nG nm new (b || geB e.nm nm) r;have h2:(if e.nm.toList == nm.toList then ([]:List En) else [e]).length≤1:=by split <;> simp
  unfold gz;rw [List.length_append,List.length_append,List.length_cons];cases b with
  | true=>
   have h3:=h1.2 rfl;simp only [Bool.not_true,Bool.false_and,Bool.false_eq_true,if_false,List.length_nil];exact ⟨by omega,fun _=>by omega⟩
  | false=>
   refine ⟨?_,fun h=>by cases h⟩;cases hg:geB e.nm nm with
   | true=>
    rw [hg] at h1;have h3:=h1.2 rfl;simp only [Bool.not_false,Bool.and_self,if_true,List.length_cons,List.length_nil];simp only [Bool.or_true] at *;omega
   | false=>
    simp only [Bool.not_false,Bool.and_false,Bool.false_eq_true,if_false,List.length_nil];rw [hg] at h1;have h4:=h1.1;simp only [Bool.or_false] at *;omega
theorem mh (nm:ByteArray) (new:Int) (hm:nm.size≤1000):∀ (b:Bool) (l:List En),(∀ x∈l,x.nm.size≤1000)→∀ x∈gz nm new b l,x.nm.size≤1000
 | b, [],_,x,hx=>by
  unfold gz at hx;split at hx
  · cases hx
  · rw [List.mem_singleton.1 hx];exact hm
 | b,e :: r,h,x,hx=>by
  unfold gz at hx;rcases List.mem_append.1 hx with hx | hx
  · split at hx
    · rw [List.mem_singleton.1 hx];exact hm
    · cases hx
  · rcases List.mem_append.1 hx with hx | hx
    · split at hx
      · cases hx
      · rw [List.mem_singleton.1 hx];exact h e (List.mem_cons_self ..)
    · exact mh nm new hm _ r (fun y hy=>h y (List.mem_cons_of_mem _ hy)) x hx
def Cy (nm:ByteArray) (new:Int) (b:Bool) (e:En):List En:=if !b && geB e.nm nm then [⟨nm,new⟩] else []
def Cz (nm:ByteArray) (e:En):List En:=if e.nm.toList == nm.toList then [] else [e]
theorem CB (nm:ByteArray) (new:Int) (b:Bool) (l:List En) (k:Nat) (hk:k < l.length):gz nm new b (l.drop k)=Cy nm new b l[k] ++ (Cz nm l[k] ++ gz nm new (b || geB l[k].nm nm) (l.drop (k+1))):=by
 rw [List.drop_eq_getElem_cons hk];rfl
theorem jF (w:World) (cs ds:Array Value) (s t:TypeId):Below w.heap.size w ((w.alloc (.cells cs s)).alloc (.cells ds t)):=((Below.refl w.heap.size w).alloc (Nat.le_refl _) _).alloc (by simp) _
theorem JX (f:List Dv) (dev ino:Int):bM f dev ino=match aD f dev ino with | some n=>n.kind == 2 | none=>false:=rfl
def gN (f:List Dv) (dev ino:Int):Bool:=match aD f dev ino with | some n=>(n.es.length:Int) == 0 | none=>true
def kv (f:List Dv) (dev ino:Int):Bool:=match aD f dev ino with | some n=>decide ((12:Int)≤n.es.length) | none=>false
def aZ (f:List Dv) (dev ino:Int) (nm:ByteArray):Int:=
 match aD f dev ino with
 | none=>2
 | some n=>if n.kind == 2 then (if dS nm=true then 0 else 22) else 20
def o7 (l:List En) (nm:ByteArray):Option En:=l.find? (fun x=>x.nm.toList == nm.toList)
def cB (f:List Dv) (dev ino:Int) (nm:ByteArray):Int×(Int×Int):=
 match aD f dev ino with
 | none=>(2,0,0)
 | some n=>if n.kind == 2 then (match o7 n.es nm with | some x=>(0,dev,x.ino) | none=>(2,0,0)) else (20,0,0)
theorem uR {l:List En} {nm:ByteArray} (h:∀ k (hk:k < l.length),(l[k].nm.toList == nm.toList)=false):o7 l nm=none:=by
 unfold o7;rw [List.find?_eq_none];intro x hx;obtain ⟨k,hk,rfl⟩:=List.getElem_of_mem hx;rw [h k hk];decide
theorem uS {l:List En} {nm:ByteArray} {k:Nat} (hk:k < l.length) (h:∀ j (hj:j < k),(l[j].nm.toList == nm.toList)=false) (he:(l[k].nm.toList == nm.toList)=true):o7 l nm=some l[k]:=by
 unfold o7;rw [List.find?_eq_some_iff_getElem];exact ⟨he,k,hk,rfl,fun j hj=>by rw [h j hj];decide⟩
theorem jG (dev ino:Int) (ds:List Dm) (A:Option Addr) (n c:Nat) (hn:n=ds.length) (w:World) (h:bZ w w.heap.size A ds):
  Calls Tryz.prog 67 #[fsV A n c,flV dev ino] w fun e w' =>e= .returned (.bool (bM (ds.map Dm.dv) dev ino))∧Below w.heap.size w w' :=by
 have B0:=Hd (jF w #[.slice A n c] #[.int .i64 dev, .int .i64 ino] 28 44);have HN:=Hd (bQ dev ino ds A n c hn _ (h.below B0.o));have HD:=Hd (show bM (ds.map Dm.dv) dev ino=match aD (ds.map Dm.dv) dev ino with | some n=>n.kind == 2 | none=>false from rfl);clear h hn;go_in;go_wp2_with fail;refine HN.o.mono ?_;intro e w1 hp;cases hq:aD (ds.map Dm.dv) dev ino with
 | none=>
  rw [hq] at hp;obtain ⟨rfl,hb⟩:=hp;have B1:=Hd (B0.o.trans (hb.mono B0.o.size));have HR:=Hd (HD.o.trans (by rw [hq]));clear hb hq HN HD;go_wp2_with fail;go_ret;exact ⟨by rw [HR.o];rfl,B1.o.alloc B1.o.size _⟩
 | some nd=>
  rw [hq] at hp;obtain ⟨A2,c2,rfl,ho,hb,hsz⟩:=hp;have B1:=Hd (B0.o.trans (hb.mono B0.o.size));have HR:=Hd (HD.o.trans (by rw [hq]));clear hb hq HN HD ho hsz;go_wp2_with fail;go_ret;exact ⟨by rw [HR.o];rfl,B1.o.alloc B1.o.size _⟩
theorem uT (dev ino:Int) (ds:List Dm) (A:Option Addr) (n c:Nat) (hn:n=ds.length) (w:World) (h:bZ w w.heap.size A ds):
  Calls Tryz.prog 231 #[fsV A n c,flV dev ino] w fun e w' =>e= .returned (.bool (gN (ds.map Dm.dv) dev ino))∧Below w.heap.size w w' :=by
 have B0:=Hd (jF w #[.slice A n c] #[.int .i64 dev, .int .i64 ino] 28 44);have HN:=Hd (bQ dev ino ds A n c hn _ (h.below B0.o));have HD:=Hd (show gN (ds.map Dm.dv) dev ino=match aD (ds.map Dm.dv) dev ino with | some n=>(n.es.length:Int) == 0 | none=>true from rfl);clear h hn;go_in;go_wp2_with fail;refine HN.o.mono ?_;intro e w1 hp;cases hq:aD (ds.map Dm.dv) dev ino with
 | none=>
  rw [hq] at hp;obtain ⟨rfl,hb⟩:=hp;have B1:=Hd (B0.o.trans (hb.mono B0.o.size));have HR:=Hd (HD.o.trans (by rw [hq]));clear hb hq HN HD;go_wp2_with fail;go_ret;exact ⟨by rw [HR.o];rfl,B1.o.alloc B1.o.size _⟩
 | some nd=>
  rw [hq] at hp;obtain ⟨A2,c2,rfl,ho,hb,hsz⟩:=hp;have B1:=Hd (B0.o.trans (hb.mono B0.o.size));have HR:=Hd (HD.o.trans (by rw [hq]));clear hb hq HN HD ho hsz;go_wp2_with fail;go_ret;exact ⟨by rw [HR.o];rfl,B1.o.alloc B1.o.size _⟩
theorem uU (dev ino:Int) (ds:List Dm) (A:Option Addr) (n c:Nat) (hn:n=ds.length) (w:World) (h:bZ w w.heap.size A ds):
  Calls Tryz.prog 227 #[fsV A n c,flV dev ino] w fun e w' =>e= .returned (.bool (kv (ds.map Dm.dv) dev ino))∧Below w.heap.size w w' :=by
 have B0:=Hd (jF w #[.slice A n c] #[.int .i64 dev, .int .i64 ino] 28 44);have HN:=Hd (bQ dev ino ds A n c hn _ (h.below B0.o));have HD:=Hd (show kv (ds.map Dm.dv) dev ino=match aD (ds.map Dm.dv) dev ino with | some n=>decide ((12:Int)≤n.es.length) | none=>false from rfl);clear h hn;go_in;go_wp2_with fail;refine HN.o.mono ?_;intro e w1 hp;cases hq:aD (ds.map Dm.dv) dev ino with
 | none=>
  rw [hq] at hp;obtain ⟨rfl,hb⟩:=hp;have B1:=Hd (B0.o.trans (hb.mono B0.o.size));have HR:=Hd (HD.o.trans (by rw [hq]));clear hb hq HN HD;go_wp2_with fail;go_ret;exact ⟨by rw [HR.o];rfl,B1.o.alloc B1.o.size _⟩
 | some nd=>
  rw [hq] at hp;obtain ⟨A2,c2,rfl,ho,hb,hsz⟩:=hp;have B1:=Hd (B0.o.trans (hb.mono B0.o.size));have HR:=Hd (HD.o.trans (by rw [hq]));clear hb hq HN HD ho hsz;go_wp2_with fail;go_ret;exact ⟨by rw [HR.o];rfl,B1.o.alloc B1.o.size _⟩
theorem jL (dev ino:Int) (nm:ByteArray) (hm:nm.size≤maxLen) (ds:List Dm) (A:Option Addr) (n c:Nat) (hn:n=ds.length) (w:World) (h:bZ w w.heap.size A ds):
  Calls Tryz.prog 226 #[fsV A n c,flV dev ino, .string nm] w fun e w' =>e= .returned (.int .i64 (aZ (ds.map Dm.dv) dev ino nm))∧Below w.heap.size w w' :=by
 have B0:=Hd (jF w #[.slice A n c] #[.int .i64 dev, .int .i64 ino] 28 44);have HN:=Hd (bQ dev ino ds A n c hn _ (h.below B0.o));have HD:=Hd (show aZ (ds.map Dm.dv) dev ino nm=match aD (ds.map Dm.dv) dev ino with | none=>2 | some n=>if n.kind == 2 then (if dS nm=true then 0 else 22) else 20 from rfl);have HP:=Hd (uO nm hm);clear h hn hm;go_in;go_wp2_with fail;refine HN.o.mono ?_;intro e w1 hp;cases hq:aD (ds.map Dm.dv) dev ino with
 | none=>
  rw [hq] at hp;obtain ⟨rfl,hb⟩:=hp;have B1:=Hd (B0.o.trans (hb.mono B0.o.size));have HR:=Hd (HD.o.trans (by rw [hq]));clear hb hq HN HD;go_wp2_with fail;go_ret;exact ⟨by rw [HR.o];rfl,B1.o.alloc B1.o.size _⟩
 | some nd=>
  rw [hq] at hp;obtain ⟨A2,c2,rfl,ho,hb,hsz⟩:=hp;have B1:=Hd (B0.o.trans (hb.mono B0.o.size));have HR:=Hd (HD.o.trans (by rw [hq]));clear hb hq HN HD ho hsz;cases hk:(nd.kind == 2) with
  | false=>
   have hk' :(nd.kind != 2)=true:=(by rw [bne,hk];rfl);have HR:=Hd (HR.o.trans (by simp only [hk];rfl:_=(20:Int)));go_wp2_with fail;go_ret;exact ⟨by rw [HR.o];rfl,B1.o.alloc B1.o.size _⟩
  | true=>
   have hk' :(nd.kind != 2)=false:=(by rw [bne,hk];rfl);have HR:=Hd (HR.o.trans (by simp only [hk];rfl:_=(if dS nm=true then (0:Int) else 22)));go_wp2_with fail;refine (HP.o _).mono ?_;rintro e w2 ⟨rfl,rfl⟩;cases hc:dS nm
   · have HR:=Hd (HR.o.trans (by rw [hc];rfl:_=(22:Int)));go_wp2_with fail;go_ret;exact ⟨by rw [HR.o];rfl,B1.o.alloc B1.o.size _⟩
   · have HR:=Hd (HR.o.trans (by rw [hc];rfl:_=(0:Int)));go_wp2_with fail;go_ret;exact ⟨by rw [HR.o];rfl,B1.o.alloc B1.o.size _⟩
theorem dK (d i:Int):(Tryz.prog.info? 44).map (·.size)=some (#[(.int .i64 d:Value), .int .i64 i]:Array Value).size:=by show _=some 2;kernel_rfl
theorem bU (d i:Int):(#[(.int .i64 d:Value), .int .i64 i]:Array Value).all (·.oneCell')=true:=by simp [Value.oneCell']
theorem ic {fn:Func} {i j:Nat} (h:fn.results=#[.cell i 44, .tmp j]) (tmps:Array Value) (w:World) (g:Nat) (d k:Int) (hp:tmps.getD i undef= .pointer (some ⟨g,0,none⟩)) (hg:Blk w g 44 #[.int .i64 d, .int .i64 k]):
  (results fn tmps).run Tryz.prog w= .ok (.tuple #[flV d k,tmps.getD j undef]) w:=by
 have hp' :tmps[i]?.getD undef= .pointer (some ⟨g,0,none⟩):=by simpa using hp
 simp [results,h,hp',asAddr,run_loadVar_row w g 44 44 #[.int .i64 d, .int .i64 k] (0,0) _ hg Tryz.underlying44 rfl (dK d k)]
theorem aX {w:World} {p q:Addr} {v:Value} (h:q.block≠p.block):(w.setCell p v).cell? q=w.cell? q:=World.cell?_of_block (heap_setCell_other w p q.block v h)
def yZ (r:Int×(Int×Int)) (w:World) (e:Ending) (w' :World):Prop:=e= .returned (.tuple #[flV r.2.1 r.2.2, .int .i64 r.1])∧Below w.heap.size w w'
theorem fJ (dev ino:Int) (nm:ByteArray) (ds:List Dm) (A:Option Addr) (n c:Nat) (hn:n=ds.length) (w:World) (h:bZ w w.heap.size A ds):
  Calls Tryz.prog 196 #[fsV A n c,flV dev ino, .string nm] w (yZ (cB (ds.map Dm.dv) dev ino nm) w):=by
 have hs1:(w.alloc (.cells #[.slice A n c] 28)).heap.size=w.heap.size+1:=by simp
 have hs2:((w.alloc (.cells #[.slice A n c] 28)).alloc (.cells #[.int .i64 dev, .int .i64 ino] 44)).heap.size=w.heap.size+1+1:=by simp
 have B0:=Hd ((jF w #[.slice A n c] #[.int .i64 dev, .int .i64 ino] 28 44).alloc (by rw [hs2];omega) (.cells #[.int .i64 0, .int .i64 0] 44));have R0:=Hd (show Blk (((w.alloc (.cells #[.slice A n c] 28)).alloc (.cells #[.int .i64 dev, .int .i64 ino] 44)).alloc (.cells #[.int .i64 0, .int .i64 0] 44)) (w.heap.size+1+1) 44 #[.int .i64 0, .int .i64 0] by
  have h:=Blk.new ((w.alloc (.cells #[.slice A n c] 28)).alloc (.cells #[.int .i64 dev, .int .i64 ino] 44)) #[.int .i64 0, .int .i64 0] 44;rw [hs2] at h;exact h)
 have U0:=Hd (show Blk (((w.alloc (.cells #[.slice A n c] 28)).alloc (.cells #[.int .i64 dev, .int .i64 ino] 44)).alloc (.cells #[.int .i64 0, .int .i64 0] 44)) (w.heap.size+1) 44 #[.int .i64 dev, .int .i64 ino] by
  have h:=(Blk.new (w.alloc (.cells #[.slice A n c] 28)) #[.int .i64 dev, .int .i64 ino] 44).alloc (.cells #[.int .i64 0, .int .i64 0] 44);rw [hs1] at h;exact h)
 have HN:=Hd (bQ dev ino ds A n c hn _ (h.below B0.o));have HD:=Hd (show cB (ds.map Dm.dv) dev ino nm=match aD (ds.map Dm.dv) dev ino with | none=>(2,0,0) | some n=>if n.kind == 2 then (match o7 n.es nm with | some x=>(0,dev,x.ino) | none=>(2,0,0)) else (20,0,0) from rfl);clear h hn hs1 hs2;go_in;go_wp2_with fail;generalize (((w.alloc (.cells #[.slice A n c] 28)).alloc (.cells #[.int .i64 dev, .int .i64 ino] 44)).alloc (.cells #[.int .i64 0, .int .i64 0] 44))=w0 at *;refine HN.o.mono ?_;intro e w1 hp;cases hq:aD (ds.map Dm.dv) dev ino with
 | none=>
  rw [hq] at hp;obtain ⟨rfl,hb⟩:=hp;have B1:=Hd ((B0.o.trans (hb.mono B0.o.size)).alloc (B0.o.trans (hb.mono B0.o.size)).size (.cells ndZ 145));have R1:=Hd ((R0.o.below hb).alloc (.cells ndZ 145));have HR:=Hd (HD.o.trans (by rw [hq]));clear hb hq HN HD R0 U0 B0;go_wp2_with ((with_reducible refine ae ?_ 44 (.tmp 6) (.tmp 19) ?_ R1.o #[.int .i64 0, .int .i64 0] ?_ ?_ ?_ ?_ ?_ ?_);(iterate 4 rfl);(exact dK _ _);rfl;(exact bU _ _));refine bodyPost_ret (ic (fn:=Tryz.f196) rfl _ _ (w.heap.size+1+1) 0 0 rfl (Blk.row R1.o _)) rfl ?_;rw [HR.o];exact ⟨rfl,ai B1.o (by omega) _⟩
 | some nd=>
  rw [hq] at hp;obtain ⟨A2,c2,rfl,ho,hb,hsz⟩:=hp;have B1:=Hd ((B0.o.trans (hb.mono B0.o.size)).alloc (B0.o.trans (hb.mono B0.o.size)).size (.cells (ndC nd (.slice A2 nd.es.length c2)) 145));have R1:=Hd ((R0.o.below hb).alloc (.cells (ndC nd (.slice A2 nd.es.length c2)) 145));have U1:=Hd ((U0.o.below hb).alloc (.cells (ndC nd (.slice A2 nd.es.length c2)) 145));have X1:=Hd (Blk.new w1 (ndC nd (.slice A2 nd.es.length c2)) 145);have HLT:=Hd (show w.heap.size+1+1 < w1.heap.size from (R0.o.below hb).lt);obtain ⟨A3,c3,e3,hat⟩:=ho.at;injection e3 with e3 e4 e5;subst e3;have HGE:=Hd (fun r (e:A2.map (·.block)=some r)=>ho.ge r (by cases A2 with | none=>cases e | some a=>exact e));have HW0:=Hd R0.o.lt;have HAT:=Hd (hat.keep ((Below.refl w1.heap.size w1).alloc (Nat.le_refl _) (.cells (ndC nd (.slice A2 nd.es.length c2)) 145)) (Nat.le_refl _));have HR:=Hd (HD.o.trans (by rw [hq]));have HSZ:=Hd hsz.1;clear hb hq HN HD ho R0 U0 B0 hat e4 e5 hsz;cases hk:(nd.kind == 2) with
  | false=>
   have hk' :(nd.kind != 2)=true:=(by rw [bne,hk];rfl);have HR:=Hd (HR.o.trans (by simp only [hk];rfl:_=((20,0,0):Int×(Int×Int))));go_wp2_with ((with_reducible refine ae ?_ 44 (.tmp 6) (.tmp 23) ?_ R1.o #[.int .i64 0, .int .i64 0] ?_ ?_ ?_ ?_ ?_ ?_);(iterate 4 rfl);(exact dK _ _);rfl;(exact bU _ _));refine bodyPost_ret (ic (fn:=Tryz.f196) rfl _ _ (w.heap.size+1+1) 0 0 rfl (Blk.row R1.o _)) rfl ?_;rw [HR.o];exact ⟨rfl,ai B1.o (by omega) _⟩
  | true=>
   have hk' :(nd.kind != 2)=false:=(by rw [bne,hk];rfl);have HR:=Hd (HR.o.trans (by simp only [hk];rfl:_=match o7 nd.es nm with | some x=>((0,dev,x.ino):Int×(Int×Int)) | none=>(2,0,0)));go_wp2_with fail;generalize w1.alloc (.cells (ndC nd (.slice A2 nd.es.length c2)) 145)=w2 at *;go_loopw [10] (fun i wr=>∃ k:Nat,k≤nd.es.length∧i= .int .i64 k∧wr=w2∧Hid (∀ q (hq:q < k) (hl:q < nd.es.length),(nd.es[q].nm.toList == nm.toList)=false)) (fun i _=>nd.es.length - (intOf i).toNat);case atStart=>exact ⟨0,Nat.zero_le _,rfl,rfl,Hd (fun q hq=>by omega)⟩
   case round=>
    obtain ⟨k,hkl,rfl,rfl,hno⟩:=hrel;have x7:=X1.o.cell 7;by_cases hlt:k < nd.es.length;case pos=>
     have k1:(k:Int) < (nd.es.length:Int):=(by omega);have k2:(0:Int)≤(k:Int):=(by omega);have k3:=HSZ.o;have w1' :wrap64 ((k:Int)+1)=(k:Int)+1:=IntWalk.wrap64_in _ (by omega);have w2' :IntKind.i64.wrap ((k:Int)+1)=(k:Int)+1:=IntWalk.i64_in _ (by omega);obtain ⟨ad,rfl,hab,hcx⟩:=HAT.o k hlt;obtain ⟨s0,s1⟩:=gy (a:=ad.add (k * 2)) hcx;have HX:=Hd (fun h:(nd.es[k].nm.toList == nm.toList)=true=>uS hlt (fun q hq=>hno.o q hq (by omega)) h);have HY:=Hd (fun h:(nd.es[k].nm.toList == nm.toList)=false=>show ∀ q (hq:q < k+1) (hl:q < nd.es.length),(nd.es[q].nm.toList == nm.toList)=false from fun q hq hl=>by
      by_cases he:q=k
      · subst he;exact h
      · exact hno.o q (by omega) hl)
     have hge:w0.heap.size≤ad.block:=HGE.o ad.block rfl;clear hcx hno;generalize nd.es[k]=x at *;cases hb:(x.nm.toList == nm.toList) with
     | false=>
      have HZ:=Hd (HY.o hb);go_wp2_with fail;go_roundw;case rel=>exact ⟨k+1,by omega,by go_num,by first | rfl | trivial,HZ⟩
      case measure=>simp [intOf];omega
     | true=>
      have HZ:=Hd (HX.o hb);have HR:=Hd (HR.o.trans (by rw [HZ.o]));have u0:=U1.o.cell 0;go_upto_region 10 with fail;have hS0:wr.drew.cell? ⟨w.heap.size+1,0,none⟩=some (.int .i64 dev)∧wr.drew.cell? ⟨w1.heap.size,7,none⟩=some (.slice (some ad) nd.es.length c2)∧wr.drew.cell? ⟨(ad.add (k * 2)).block,(ad.add (k * 2)).off+1,none⟩=some (.int .i64 x.ino):=⟨u0,x7,s1⟩;refine wp_region_held_drew (S:=(fun W=>W.cell? ⟨w.heap.size+1,0,none⟩=some (.int .i64 dev)∧W.cell? ⟨w1.heap.size,7,none⟩=some (.slice (some ad) nd.es.length c2)∧W.cell? ⟨(ad.add (k * 2)).block,(ad.add (k * 2)).off+1,none⟩=some (.int .i64 x.ino))) (by kernel_rfl) hS0 (fun hHeld=>?_);refine tk hHeld 0 ?_ ?_ (tk hHeld 1 ?_ ?_ (tk hHeld 2 ?_ ?_ (tk hHeld 3 ?_ ?_ (tk hHeld 4 ?_ ?_ (tk hHeld 5 ?_ ?_ (tk hHeld 6 ?_ ?_ (tk hHeld 7 ?_ ?_ (tk hHeld 8 ?_ ?_ ?_))))))));iterate 9
        rotate_left
        · intro W hSw;obtain ⟨y0,y1,y2⟩:=hSw;go_simp;try (with_reducible rfl)
      have r0:=R1.o.cell 0;have r1:=R1.o.cell 1;have f0:=R1.o.free 0;have f1:=R1.o.free 1;have hS1:∀ u v:Value,((wr.setCell ⟨w.heap.size+1+1,0,none⟩ u).setCell ⟨w.heap.size+1+1,1,none⟩ v).drew.cell? ⟨w.heap.size+1,0,none⟩=some (.int .i64 dev)∧((wr.setCell ⟨w.heap.size+1+1,0,none⟩ u).setCell ⟨w.heap.size+1+1,1,none⟩ v).drew.cell? ⟨w1.heap.size,7,none⟩=some (.slice (some ad) nd.es.length c2)∧((wr.setCell ⟨w.heap.size+1+1,0,none⟩ u).setCell ⟨w.heap.size+1+1,1,none⟩ v).drew.cell? ⟨(ad.add (k * 2)).block,(ad.add (k * 2)).off+1,none⟩=some (.int .i64 x.ino):=fun u v=>by
        have h1:=HLT.o;have h2:=HW0.o;have h3:(ad.add (k * 2)).block=ad.block:=ak ad _;refine ⟨?_,?_,?_⟩
        · show ((wr.setCell ⟨w.heap.size+1+1,0,none⟩ u).setCell ⟨w.heap.size+1+1,1,none⟩ v).cell? _=_;rw [aX (by show w.heap.size+1≠w.heap.size+1+1;omega),aX (by show w.heap.size+1≠w.heap.size+1+1;omega)];exact u0
        · show ((wr.setCell ⟨w.heap.size+1+1,0,none⟩ u).setCell ⟨w.heap.size+1+1,1,none⟩ v).cell? _=_;rw [aX (by show w1.heap.size≠w.heap.size+1+1;omega),aX (by show w1.heap.size≠w.heap.size+1+1;omega)];exact x7
        · show ((wr.setCell ⟨w.heap.size+1+1,0,none⟩ u).setCell ⟨w.heap.size+1+1,1,none⟩ v).cell? _=_;rw [aX (by show (ad.add (k * 2)).block≠w.heap.size+1+1;omega),aX (by show (ad.add (k * 2)).block≠w.heap.size+1+1;omega)];exact s1
      refine rdy1 9 (fun K hK=>?_);go_simp;refine hK.o _ _ (hS1 _ _) (fun hHeld=>?_);clear hK K;refine tk hHeld 10 ?_ ?_ ?_;rotate_left
      · intro W hSw;go_simp;try (with_reducible rfl)
      refine wpAnyH_done (by kernel_rfl) ?_ _;go_wp2_with fail;refine bodyPost_ret (ic (fn:=Tryz.f196) rfl _ _ (w.heap.size+1+1) dev x.ino rfl (show Blk ((wr.setCell ⟨w.heap.size+1+1,0,none⟩ (.int .i64 dev)).setCell ⟨w.heap.size+1+1,1,none⟩ (.int .i64 x.ino)).drew (w.heap.size+1+1) 44 #[.int .i64 dev, .int .i64 x.ino] from (R1.o.put 0 (.int .i64 dev)).put 1 (.int .i64 x.ino))) rfl ?_;rw [HR.o];exact ⟨rfl,((B1.o.setCell (p:=⟨w.heap.size+1+1,0,none⟩) (by show w.heap.size≤w.heap.size+1+1;omega) _).setCell (p:=⟨w.heap.size+1+1,1,none⟩) (by show w.heap.size≤w.heap.size+1+1;omega) _).drew⟩
    case neg=>
     have k1:¬ (k:Int) < (nd.es.length:Int):=(by omega);have HR:=Hd (HR.o.trans (by rw [uR (fun q hq=>hno.o q (by omega) hq)]));go_wp2_with ((with_reducible refine ae ?_ 44 (.tmp 6) (.tmp 48) ?_ R1.o #[.int .i64 0, .int .i64 0] ?_ ?_ ?_ ?_ ?_ ?_);(iterate 4 rfl);(exact dK _ _);rfl;(exact bU _ _));refine bodyPost_ret (ic (fn:=Tryz.f196) rfl _ _ (w.heap.size+1+1) 0 0 rfl (Blk.row R1.o _)) rfl ?_;rw [HR.o];exact ⟨rfl,ai B1.o (by omega) _⟩
end Go.Proofs.YtollifnnpihfdaaGreatDoor
