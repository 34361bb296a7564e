import Derived.Test.YtollifnnpihfdaaGreatDoorW47
set_option maxRecDepth 100000
set_option maxHeartbeats 64000000
set_option linter.all false
namespace Go.Proofs.YtollifnnpihfdaaGreatDoor
open Go.RowKit Go.Shelf
attribute [local go_sem] Oper.semAt_some
theorem Cu (v:Array Value) (hv:v.size=2) (dev ino:Int) (w:World):Calls Tryz.prog 97 #[.agg v,flV dev ino] w fun e w' =>e= .returned (.func (.func 160) #[] #[.pointer (some ⟨w.heap.size,0,none⟩), .pointer (some ⟨w.heap.size+1,0,none⟩)])∧w' =(w.alloc (.cells v 31)).alloc (.cells #[.int .i64 dev, .int .i64 ino] 44):=by
 go_in
 go_wp2
 go_ret;exact ⟨rfl,rfl⟩
theorem bG.block {w w' :World} {base:Nat} {v:Value} {L:List ByteArray} (h:bG w base v L) (hb:∀ g,v.ownBlock=some g→w'.heap[g]? =w.heap[g]?):bG w' base v L:=by
 refine ⟨h.1,?_⟩;rcases h.2 with hn | ⟨g,cap,cur,rfl,hb1,hgg,rest⟩
 · exact .inl hn
 · refine .inr ⟨g,cap,cur,rfl,hb1,?_,rest⟩;rw [hb g rfl];exact hgg
theorem Blk.obj {w:World} {g l:Nat} {t:TypeId} {cs:Array Value} (h:Blk w g t cs) {o:Obj} (o' :Obj) (ho:w.heap[l]? =some o) (hc:o.isCells=false):Blk (w.putObj l o') g t cs:=by
 have hne:l≠g:=fun e=>by
  subst e;have h' :w.heap[l]? =some (.cells cs t (0,0)):=h;rw [ho] at h';injection h' with h';rw [h'] at hc;cases hc
 exact (World.putObj_heap_other hne.symm).trans h
theorem KpB.refl (D:Nat) (g:Option Nat) (W:World):KpB D g W W:=fun _ _ _ h _=>h
theorem rG {f:List Dv} (h:FOk f) (l:List (Int×Int)):∀ s∈jy f l,s.size≤12:=fun s hs=>by
 obtain ⟨x,_,rfl⟩:=List.mem_map.1 hs;exact jl h x.1 x.2
theorem pQ (L:List ByteArray) (h:∀ x∈L,x.size≤12):(iA L).size≤1+13 * L.length:=dV L ⟨#[47]⟩ h
theorem Blk.wo {X Y:World} {b:Nat} {t:TypeId} {cs:Array Value} {row:Option Nat} (h:Blk X b t cs) (hg:X.grownBy Y row) (hr:∀ r,row=some r→∃ o:Obj,X.heap[r]? =some o∧o.isCells=false):Blk Y b t cs:=h.grown hg (fun e=>by
 obtain ⟨o,ho,hc⟩:=hr b e;rw [show X.heap[b]? =_ from h] at ho;cases ho;cases hc)
theorem KpB.setCell {D:Nat} {g:Option Nat} {W:World} {p:Addr} (v:Value) (hD:D≠p.block) (hg:∀ q,g=some q→q≠p.block):KpB D g W (W.setCell p v):=fun b o hb ho _=>by
 refine (heap_setCell_other W p b v ?_).trans ho;rcases hb with rfl | hb
 · exact hD
 · exact hg b hb.symm
theorem wu {W:World} {base:Nat} {v:Value} {L:List ByteArray} (h:bG W base v L):∀ (j:Nat) (o:Obj),v.ownBlock=some j→W.heap[j]? =some o→o.isCells=true:=fun j o hj ho=>by
 rcases h.2 with ⟨rfl,_⟩ | ⟨g,cap,cur,rfl,hb1,hgg,_⟩
 · cases hj
 · have e:g=j:=Option.some.inj hj;subst e;rw [hgg] at ho;injection ho with ho;subst ho;rfl
theorem bG.MU {W:World} {base G:Nat} {v:Value} {L:List ByteArray} {t:TypeId} {cs:Array Value} (h:bG W base v L) (hg:Blk W G t cs) (ht:(9:Nat)≠t) (u:Value):bG (W.setCell ⟨G,0,none⟩ u) base v L:=
 bG.block h (fun g e=>heap_setCell_other W ⟨G,0,none⟩ g u (fun e2=>by
  have e2:g=G:=e2;subst e2;rcases h.2 with ⟨rfl,_⟩ | ⟨g',cap,cur,rfl,hb1,hgg,_⟩
  · cases e
  · have e3:g' =g:=Option.some.inj e;subst e3;rw [show W.heap[g']? =_ from hg] at hgg;injection hgg with hgg;injection hgg with _ h2;exact ht h2.symm))
theorem lW {z:Int×Int} :∀ {q l:List (Int×Int)} {rest:List (Int×Int)},(∀ x∈q,x≠z)→(∀ x∈l,x≠z)→(q ++ [z]) ++ rest=l ++ [z]→q=l
 | [], [],_,_,_,_=>rfl
 | [],y :: l,_,_,h2,e=>by
  simp only [List.nil_append,List.cons_append] at e;injection e with e _;exact absurd e.symm (h2 y (List.mem_cons_self ..))
 | x :: q, [],_,h1,_,e=>by
  simp only [List.nil_append,List.cons_append] at e;injection e with e _;exact absurd e (h1 x (List.mem_cons_self ..))
 | x :: q,y :: l,rest,h1,h2,e=>by
  simp only [List.cons_append] at e;injection e with e1 e2;rw [e1,lW (fun a ha=>h1 a (List.mem_cons_of_mem _ ha)) (fun a ha=>h2 a (List.mem_cons_of_mem _ ha)) (rest:=rest) (by rw [← e2])]
theorem rH {W:World} {D H:Nat} {s:ByteArray} {b:Bool} (a1:Blk W (H+2) 9 #[.string s]) (a2:Blk W (H+3) 4 #[.bool b]) (hD:H+4≤D):
  (W.putObj D (.deferred none)).cell? ⟨H+1+1,0,none⟩=some (.string s)∧(W.putObj D (.deferred none)).cell? ⟨H+1+1+1,0,none⟩=some (.bool b):=by
 have e1:Blk (W.putObj D (.deferred none)) (H+2) 9 #[.string s]:=(World.putObj_heap_other (by omega)).trans a1;have e2:Blk (W.putObj D (.deferred none)) (H+3) 4 #[.bool b]:=(World.putObj_heap_other (by omega)).trans a2;exact ⟨e1.cell 0,e2.cell 0⟩
theorem yR (w:World) (s:ByteArray):bB (w.alloc (.cells #[.string s] 9)) (w.alloc (.cells #[.string s] 9)).heap.size (some ⟨w.heap.size,0,none⟩) [s]:=fun k hk=>by
 obtain rfl:k=0:=by simp at hk;omega
 exact ⟨_,rfl,by simp,(Blk.new w #[.string s] 9).cell 0⟩
def VWh (v0:Value) (s:ByteArray) (j:Nat) (v:Value) (W:World):Prop:=match j with
 | 0=>v=v0
 | 3=>v= .string s
 | 4=>∃ g:Nat,v= .slice (some ⟨g,0,none⟩) 1 1∧bB W W.heap.size (some ⟨g,0,none⟩) [s]
 | _=>True
theorem VWh.below {v0:Value} {s:ByteArray} {A B:World} (hb:Below A.heap.size A B) (j:Nat) (x:Value) (h:VWh v0 s j x A):VWh v0 s j x B:=by
 unfold VWh at h ⊢;split at h <;> first | exact h | (obtain ⟨g,h1,h2⟩:=h;exact ⟨g,h1,(h2.keep hb (Nat.le_refl _)).more hb.size⟩)
structure NmI (w:World) (H:Nat) (W0:World) (g:Nat) (xs:List BkS) (W:World):Prop where
 oth:KeepsOthers W0 W
 low:Below H w W
 R1:Blk W (H+2) 9 #[.string ⟨#[]⟩]
 R2:Blk W (H+3) 4 #[.bool false]
 box:Blk W g 9 #[.string (iA (bkT xs))]
theorem NmI.own {w W0:World} {H g B:Nat} (hB:W0.heap.size≤B) (hH:H≤B:=by omega):OwnFrom B (NmI w H W0 g):=fun s X Y row hs hg hr=>by
 have hr' :∀ r,row=some r→∃ o:Obj,X.heap[r]? =some o∧o.isCells=false:=fun r e=>(hr r e).2;refine ⟨⟨Nat.le_trans hs.oth.size hg.size,fun k o hk ho=>?_⟩,⟨hg.os.trans hs.low.os,hg.tape.trans hs.low.tape,hg.output.trans hs.low.output,Nat.le_trans hs.low.size hg.size,fun i hi=>?_⟩,hs.R1.wo hg hr',hs.R2.wo hg hr',hs.box.wo hg hr'⟩
 · have hX:=hs.oth.same k o hk ho;refine (hg.block k (Array.getElem?_eq_some_iff.1 hX).1 (fun e=>?_)).trans hX;have h1:=(hr k e.symm).1;have h2:=(Array.getElem?_eq_some_iff.1 hk).1;omega
 · have h3:=hs.R1.lt;refine (hg.block i (by omega) (fun e=>?_)).trans (hs.low.block i hi);have h1:=(hr i e.symm).1;omega
structure WhI (w:World) (H G:Nat) (sv:Array Value) (f:List Dv) (pre:List (Int×Int)) (W:World):Prop where
 low:Below H w W
 V:Blk W H 31 sv
 R1:Blk W (H+2) 9 #[.string ⟨#[]⟩]
 R2:Blk W (H+3) 4 #[.bool false]
 N:∃ v,Blk W G 49 #[v]∧bG W (G+3) v (jy f pre)
 no:∀ x∈pre,x≠(0,1)
 hG:H+4≤G
structure WhR (w:World) (H G:Nat) (f:List Dv) (c:Code) (pre:List (Int×Int)) (W:World):Prop where
 ret:c= .ret
 low:Below H w W
 ans:∃ q,pre=q ++ [(0,1)]∧(∀ x∈q,x≠(0,1))∧Blk W (H+2) 9 #[.string (iA (jy f q).reverse)]
 R2:Blk W (H+3) 4 #[.bool true]
 hG:H+4≤G
section
variable {w A B:World} {H G:Nat} {sv:Array Value} {f:List Dv} {pre:List (Int×Int)} {c:Code}
theorem WhI.mid (h:WhI w H G sv f pre A) (hm:Mid (G+1) (G+3) A B):WhI w H G sv f pre B:=by
 obtain ⟨v,h1,h2⟩:=h.N;have:=h.hG;exact ⟨h.low.trans (hm.low.mono (by omega)),h.V.keep hm.low (by omega),h.R1.keep hm.low (by omega),h.R2.keep hm.low (by omega),⟨v,h1.keep hm.low (by omega),h2.block fun g hg=>hm.high g (World.ownsRow.lt h2 g hg).1 (World.ownsRow.lt h2 g hg).2⟩,h.no,h.hG⟩
theorem WhR.mid (h:WhR w H G f c pre A) (hm:Mid (G+1) (G+3) A B):WhR w H G f c pre B:=by
 obtain ⟨q,h1,h2,h3⟩:=h.ans;have:=h.hG;exact ⟨h.ret,h.low.trans (hm.low.mono (by omega)),⟨q,h1,h2,h3.keep hm.low (by omega)⟩,h.R2.keep hm.low (by omega),h.hG⟩
theorem WhI.obj (h:WhI w H G sv f pre A) {l:Nat} {o:Obj} (o' :Obj) (hl:H≤l) (ho:A.heap[l]? =some o) (hc:o.isCells=false):WhI w H G sv f pre (A.putObj l o'):=by
 obtain ⟨v,h1,h2⟩:=h.N;exact ⟨h.low.trans (iW A o' hl (Array.getElem?_eq_some_iff.1 ho).1),h.V.obj o' ho hc,h.R1.obj o' ho hc,h.R2.obj o' ho hc,⟨v,h1.obj o' ho hc,ownsRow_putObj h2 o' ho hc⟩,h.no,h.hG⟩
theorem WhR.obj (h:WhR w H G f c pre A) {l:Nat} {o:Obj} (o' :Obj) (hl:H≤l) (ho:A.heap[l]? =some o) (hc:o.isCells=false):WhR w H G f c pre (A.putObj l o'):=by
 obtain ⟨q,h1,h2,h3⟩:=h.ans;exact ⟨h.ret,h.low.trans (iW A o' hl (Array.getElem?_eq_some_iff.1 ho).1),⟨q,h1,h2,h3.obj o' ho hc⟩,h.R2.obj o' ho hc,h.hG⟩
end
structure WhX (H:Nat) (hi:Nat) (fr:Nat→Value→Act) (x:Int×Int) (a:Act) (W:World):Prop where
 ex:∃ g,a=fr g (flV x.1 x.2)∧Blk W g 44 #[.int .i64 x.1, .int .i64 x.2]∧hi≤g
theorem wE (ds:List Dm) (A:Option Addr) (n c:Nat) (hn:n=ds.length) (ms:List Mt) (Am:Option Addr) (nm cm:Nat) (hnm:nm=ms.length) (hl:nm≤1000) (hok:FOk (ds.map Dm.dv)) {k:Nat} {dev ino:Int} {L:List ByteArray} (h:kM (ds.map Dm.dv) ms k dev ino L) (hk:k≤wO (ds.map Dm.dv)) (hk9:k≤1000)
  (KV:bI (ds.map Dm.dv) dev ino=true) (hmt:eU ms dev=true) (w:World) (hf:bV w w.heap.size A ds) (hm:AtE EMt w w.heap.size Am ms):
  Calls Tryz.prog 49 #[.agg #[slV A n c,slV Am nm cm],flV dev ino] w (WhP (iA L) true w):=by
 have NA:Tryz.prog.follows .mixedOrders=true:=by kernel_rfl
 obtain ⟨H,hH⟩:∃ H,w.heap.size=H:=⟨_,rfl⟩;obtain ⟨w0,hw0⟩:∃ w0,w0=(((w.alloc (.cells #[slV A n c,slV Am nm cm] 31)).alloc (.cells #[.int .i64 dev, .int .i64 ino] 44)).alloc (.cells #[.string ⟨#[]⟩] 9)).alloc (.cells #[.bool false] 4):=⟨_,rfl⟩;have B0:Below H w w0:=by rw [hw0, ← hH];exact ((((Below.refl _ _).alloc (Nat.le_refl _) _).alloc (by simp) _).alloc (by simp;omega) _).alloc (by simp;omega) _
 have hs0:w0.heap.size=H+4:=by rw [hw0, ← hH];simp
 have V0:Blk w0 H 31 #[slV A n c,slV Am nm cm]:=by rw [hw0, ← hH];exact (((Blk.new w _ _).alloc _).alloc _).alloc _
 have U0:Blk w0 (H+1) 44 #[.int .i64 dev, .int .i64 ino]:=by
  have:=Blk.new (w.alloc (.cells #[slV A n c,slV Am nm cm] 31)) #[.int .i64 dev, .int .i64 ino] 44;simp only [World.size_alloc,hH] at this;rw [hw0];exact (this.alloc _).alloc _
 have R1:Blk w0 (H+2) 9 #[.string ⟨#[]⟩]:=by
  have:=Blk.new ((w.alloc (.cells #[slV A n c,slV Am nm cm] 31)).alloc (.cells #[.int .i64 dev, .int .i64 ino] 44)) #[.string ⟨#[]⟩] 9;simp only [World.size_alloc,hH] at this;rw [hw0];exact this.alloc _
 have R2:Blk w0 (H+3) 4 #[.bool false]:=by
  have:=Blk.new (((w.alloc (.cells #[slV A n c,slV Am nm cm] 31)).alloc (.cells #[.int .i64 dev, .int .i64 ino] 44)).alloc (.cells #[.string ⟨#[]⟩] 9)) #[.bool false] 4;simp only [World.size_alloc,hH] at this;rw [hw0];exact this
 have F0:=hf.keep B0 (by omega);have M0:=hm.keep B0 (by omega);have HN:=Hd hn;have HNM:=Hd hnm;clear hn hnm;refine (callsIn_wide (n:=20)).1 ?_;refine callsIn_of_wp_marks Tryz.func49 rfl trivial ?_ rfl;simp only [Tryz.ntmps49,List.size_toArray,List.length_cons,List.length_nil,Nat.reduceAdd,Nat.reduceSub,Array.replicate_succ,Array.replicate_zero,List.push_toArray,List.append_toArray,List.nil_append,List.cons_append]
 gi_wp2_with fail
 rw [← hw0];clear hw0;refine ⟨trivial,(callsIn_wide.2 (zO dev ino ds A n c HN.o (slV Am nm cm) w0 (F0.more (by omega)))).mono ?_⟩;rw [KV];rintro en w1 ⟨rfl,hb1⟩;have V1:=V0.below hb1;have U1:=U0.below hb1;have R11:=R1.below hb1;have R21:=R2.below hb1;have F1:=F0.keep hb1 (by omega);have M1:=M0.keep hb1 (by omega);have B1:Below H w w1:=B0.trans (hb1.mono (by omega));have hs1:H+4≤w1.heap.size:=by have:=hb1.size;omega
 clear hb1 V0 U0 R1 R2 F0 M0 B0 hs0 w0 KV;have u0:=U1.cell 0;have v0:=V1.cell 0;have v1:=V1.cell 1
 gi_wp2_with fail
 clear u0 v0 v1;refine ⟨trivial,(callsIn_wide.2 (Gm dev (slV A n c) ms Am nm cm HNM.o hl w1 (M1.more (by omega)))).mono ?_⟩;rw [hmt];rintro en w2 ⟨rfl,hb1⟩;have V2:=V1.below hb1;have U2:=U1.below hb1;have R12:=R11.below hb1;have R22:=R21.below hb1;have F2:=F1.keep hb1 (by omega);have M2:=M1.keep hb1 (by omega);have B2:Below H w w2:=B1.trans (hb1.mono (by omega));have hs2:H+4≤w2.heap.size:=by have:=hb1.size;omega
 clear hb1 V1 U1 R11 R21 F1 M1 B1 hs1 w1 hmt;have v0:=(V2.alloc (.cells #[.slice none 0 0] 49)).cell 0;have v1:=(V2.alloc (.cells #[.slice none 0 0] 49)).cell 1;have u0:=(U2.alloc (.cells #[.slice none 0 0] 49)).cell 0;have u1:=(U2.alloc (.cells #[.slice none 0 0] 49)).cell 1
 gi_wp2_with fail
 clear u0 u1 v0 v1;refine ⟨trivial,(callsIn_wide.2 (Cu #[slV A n c,slV Am nm cm] rfl dev ino _)).mono ?_⟩;rintro en w3 ⟨rfl,hw3⟩;obtain ⟨G,hG⟩:∃ G,w2.heap.size=G:=⟨_,rfl⟩;rw [World.size_alloc,hG];have hs3:w3.heap.size=G+3:=by rw [hw3, ← hG];simp
 have b23:Below G w2 w3:=by rw [hw3, ← hG];exact (((Below.refl _ _).alloc (Nat.le_refl _) _).alloc (by simp) _).alloc (by simp;omega) _
 have hI0:WhI w H G #[slV A n c,slV Am nm cm] (ds.map Dm.dv) [] w3:=by
  refine ⟨B2.trans (b23.mono (by omega)),V2.keep b23 (by have:=V2.lt;omega),R12.keep b23 (by have:=R12.lt;omega),R22.keep b23 (by have:=R22.lt;omega),⟨.slice none 0 0,?_,bG.nil _ _⟩,(fun x hx=>by cases hx),by omega⟩;rw [hw3, ← hG];exact ((Blk.new w2 _ _).alloc _).alloc _
 have hC0:ChS w3 w3 H (G+1) A n c ds Am nm cm ms dev ino:=by
  refine ⟨?_,?_,F2.keep b23 (by omega) |>.more (by omega),M2.keep b23 (by omega) |>.more (by omega),by omega⟩
  · have:=Blk.new (w2.alloc (.cells #[.slice none 0 0] 49)) #[slV A n c,slV Am nm cm] 31;simp only [World.size_alloc,hG] at this;rw [hw3];exact this.alloc _
  · have:=Blk.new ((w2.alloc (.cells #[.slice none 0 0] 49)).alloc (.cells #[slV A n c,slV Am nm cm] 31)) #[.int .i64 dev, .int .i64 ino] 44;simp only [World.size_alloc,hG] at this;rw [hw3];exact this
 obtain ⟨l0,hch,hlen,hl0,hL⟩:=h.chn;have hGH:H+4≤G:=by omega
 clear hw3 b23 V2 U2 R12 R22 F2 M2 B2 hs2
 gi_wp2
 refine oP (lo:=G+1) (hi:=G+1+2) rfl (by decide) (gf:=160) (lb:=#[.pointer (some ⟨G+1,0,none⟩), .pointer (some ⟨G+1+1,0,none⟩)]) rfl trivial (enters_of Tryz.func160 (by kernel_rfl) rfl)
  (by omega) (by omega) (jw H (G+1)) (fun h k=>h.trans k) (fun A l o o' hl ho hc=>jw.obj A l o o' (by omega) ho hc)
  (vY (20 - 1) (G+1) H (by decide) ds A n c HN.o ms Am nm cm HNM.o hl dev ino _ hch (by rw [hlen];exact hk) w3 hC0) rfl
  (WhI w H G #[slV A n c,slV Am nm cm] (ds.map Dm.dv)) (WhR w H G (ds.map Dm.dv)) (fun _ _ _ h hb=>h.mid hb) (fun _ _ _ _ h hb=>h.mid hb) (fun _ _ l o o' h hl ho hc=>h.obj o' (by omega) ho hc) (fun _ _ _ l o o' h hl ho hc=>h.obj o' (by omega) ho hc) hI0
  (WhX H (G+3) (fun g v=> { tmps:=#[Value.agg #[slV A n c,slV Am nm cm],flV dev ino,Value.pointer (some { block:=H,off:=0 }),
        Value.pointer (some { block:=H+1,off:=0 }),Value.pointer (some { block:=H+1+1,off:=0 }),
        Value.pointer (some { block:=H+1+1+1,off:=0 }),Value.pointer (some { block:=G,off:=0 }),
        Value.pointer (some { block:=g,off:=0 }),undef,undef,undef,
        Value.agg #[slV A n c,slV Am nm cm],Value.agg #[Value.int IntKind.i64 dev,Value.int IntKind.i64 ino],
        Value.bool true,Value.bool false,Value.bool false,Value.agg #[slV A n c,slV Am nm cm],
        Value.pointer (some { block:=H+1,off:=0 }),Value.int IntKind.i64 dev,Value.bool true,
        Value.bool false,Value.bool false,Value.agg #[slV A n c,slV Am nm cm],
        Value.agg #[Value.int IntKind.i64 dev,Value.int IntKind.i64 ino],
        Value.func (Fn.func 160) #[]
          #[Value.pointer (some { block:=G+1,off:=0 }),Value.pointer (some { block:=G+1+1,off:=0 })],
        v,undef,undef,undef,undef,undef,undef,undef,undef,undef,undef,undef,undef,undef,
        undef,undef,undef,undef,undef,undef,undef,undef,undef],defers:= [] })) (fun x a' A l o o' h ho hc=>by obtain ⟨g,h1,h2,h3⟩:=h.ex;exact ⟨g,h1,h2.obj o' ho hc,h3⟩) ?assign ?body ?done ?stop
 case assign=>
  intro l pre x W K hI hhi hK
  gi_wp2
  have hb:=(Below.refl W.heap.size W).alloc (Nat.le_refl _) (.cells #[.int .i64 x.1, .int .i64 x.2] 44);exact hK _ _ (KeepsOthers.alloc _ _) (jw.below hb (by omega)) (hI.mid (fH hb (by omega))) ⟨⟨W.heap.size,rfl,Blk.new W _ _,by omega⟩⟩
 case body=>
  rintro l pre x a' W - hI hX ⟨r,hr⟩ hl hhi hlen;obtain ⟨g,rfl,hX,hg⟩:=hX.ex;obtain ⟨xd,xi⟩:=x;have x0:=hX.cell 0;have x1:=hX.cell 1;have hn1:1≤20 - 1 - 1:=by decide
  by_cases hx:xd=0∧xi=1
  · obtain ⟨rfl,rfl⟩:=hx;obtain ⟨v,hN,hO⟩:=hI.N;have HX:=Hd hX;have HI:=Hd hI;have n0:(W.alloc (.cells #[.string ⟨#[47]⟩] 9)).cell? ⟨G,0,none⟩=some v:=(hN.alloc (.cells #[.string ⟨#[47]⟩] 9)).cell 0;have n1:W.cell? ⟨G,0,none⟩=some v:=hN.cell 0;have n2:G < W.heap.size:=hN.lt;have n3:G≠W.heap.size:=(by omega);obtain ⟨A1,c1,rfl,hst⟩:=hO.strs;have HST:=Hd hst;have HAB:=Hd (show ∀ q,(A1.map Addr.block)=some q→q < W.heap.size from fun q hq=>by
      cases A1 with
      | none=>cases hq
      | some ad=>exact (World.ownsRow.lt hO q (by rw [← hq];rfl)).2)
    have HLN:=Hd (show (jy (ds.map Dm.dv) pre).length≤1000 by
      have h1:(jy (ds.map Dm.dv) pre).length≤pre.length:=(by unfold jy;rw [List.length_map];exact List.length_filter_le _ _);omega)
    have JQ:=Hd (rG hok pre);have MV:=Hd (show ∀ x∈pre,x≠(0,1) from hI.no);have HRI:=Hd (And.intro hI.low (And.intro hI.R1 hI.R2));generalize hLL:jy (ds.map Dm.dv) pre=LL at *;have HLL:=Hd hLL;clear hI hX hO hst hLL
    gi_wp2_with fail
    refine ⟨trivial,CallsIn.inRound l ((callsIn_wide.2 (Gp A1 LL.length c1 _)).mono ?_)⟩;rintro en w3 ⟨rfl,hw3⟩;rw [World.size_alloc];have bW3:Below W.heap.size W w3:=(by rw [hw3];exact ((Below.refl _ _).alloc (Nat.le_refl _) _).alloc (by simp) _);have hs3:w3.heap.size=W.heap.size+1+1:=(by rw [hw3];simp);have WB:=Hd (show Blk w3 W.heap.size 9 #[.string ⟨#[47]⟩] by rw [hw3];exact (Blk.new W _ _).alloc _);have hD3:Blk w3 (W.heap.size+1) 49 #[.slice A1 LL.length c1]:=by
      have:=Blk.new (W.alloc (.cells #[.string ⟨#[47]⟩] 9)) #[.slice A1 LL.length c1] 49;rw [World.size_alloc] at this;rw [hw3];exact this
    have hl3:w3.heap[l]? =some (.loop r):=(bW3.block l (Array.getElem?_eq_some_iff.1 hr).1).trans hr;have HK3:=Hd (show KeepsOthers W w3 by rw [hw3];exact (KeepsOthers.alloc _ _).trans (KeepsOthers.alloc _ _));have HR3:=Hd (And.intro (HRI.o.1.trans (bW3.mono (by omega))) (And.intro (HRI.o.2.1.below bW3) (HRI.o.2.2.below bW3)));clear hw3 HRI HX HI n0 n1
    gi_wp2
    refine wpIn_rangeFunc_ownN (l₀:=l) rfl hl3 (by decide) (gf:=161) (lb:=#[.pointer (some ⟨W.heap.size+1,0,none⟩)]) rfl trivial (enters_of Tryz.func161 (by kernel_rfl) rfl)
      (SeqStopsK.inRound l (yQ _ (W.heap.size+1) (by decide) A1 LL.length c1 LL rfl (by have:=HLN.o;omega) JQ.o W.heap.size w3 hD3 (by omega) (HST.o.keep bW3 (Nat.le_refl _))))
      (fun h k=>h.trans k) (fun W' l' o o' _ h1 h2 _=>KpB.obj W' l' o o' h1 h2) (Below.refl _ _) (fun _=>rfl)
      (fun xs W' =>NmI w H W W.heap.size xs W') (fun _ _ _=>False) (NmI.own (by omega)) (fun _ _ _ _ _ h _ _=>h) ⟨HK3.o,HR3.o.1,HR3.o.2.1,HR3.o.2.2,WB.o⟩
      (fun x a' _=>a' = { tmps:=#[Value.agg #[slV A n c,slV Am nm cm],flV dev ino,Value.pointer (some { block:=H,off:=0 }),
           Value.pointer (some { block:=H+1,off:=0 }),
           Value.pointer (some { block:=H+1+1,off:=0 }),
           Value.pointer (some { block:=H+1+1+1,off:=0 }),
           Value.pointer (some { block:=G,off:=0 }),Value.pointer (some { block:=g,off:=0 }),
           Value.pointer (some { block:=W.heap.size,off:=0 }),undef, .string x.1.2,
           Value.agg #[slV A n c,slV Am nm cm],Value.agg #[Value.int IntKind.i64 dev,Value.int IntKind.i64 ino],
           Value.bool true,Value.bool false,Value.bool false,Value.agg #[slV A n c,slV Am nm cm],
           Value.pointer (some { block:=H+1,off:=0 }),Value.int IntKind.i64 dev,Value.bool true,
           Value.bool false,Value.bool false,Value.agg #[slV A n c,slV Am nm cm],
           Value.agg #[Value.int IntKind.i64 dev,Value.int IntKind.i64 ino],
           Value.func (Fn.func 160) #[]
            #[Value.pointer (some { block:=G+1,off:=0 }),
             Value.pointer (some { block:=G+1+1,off:=0 })],
           flV 0 1,Value.bool true,Value.agg #[Value.int IntKind.i64 0,Value.int IntKind.i64 1],
           Value.agg #[Value.int IntKind.i64 0,Value.int IntKind.i64 1],Value.bool true, .slice A1 LL.length c1, .func (.func 161) #[] #[.pointer (some ⟨W.heap.size+1,0,none⟩)], .int .i64 x.1.1, .string x.1.2,
           undef,undef,undef,undef,undef,undef,undef,undef,undef,undef,undef,undef,undef,undef],defers:= [] }) (fun _ _=>ownFrom_pure _ _) ?as2 ?bo2 ?do2 ?st2
    case as2=>
      intro l2 Cv x2 W2 K2 hI2 hK2
      gi_wp2
      exact hK2 _ _ (KeepsFrom.refl _ _) (KpB.refl _ _ _) hI2 rfl
    case bo2=>
      intro l2 Cv x2 a2 W2 hl2 hr2 hI2 ha2 MX;subst ha2;have b0:=hI2.box.cell 0;have f0:=hI2.box.free 0;have HI2:=Hd hI2;have HSZ:=Hd (show (iA (bkT Cv)).size≤100000000 by
        have h1:=pQ (bkT Cv) (wh Cv);have h2:(bkT Cv).length=Cv.length:=List.length_map ..;have:=HLN.o;omega)
      have HX2:=Hd x2.2;clear hI2
      gi_wp2_with fail
      refine ⟨trivial,CallsIn.inRound l2 (CallsIn.inRound l ((callsIn_wide.2 (Gq _ _ HSZ.o (by have:=HX2.o;omega) W2)).mono ?_))⟩;rintro e w4 ⟨rfl,rfl⟩
      gi_wp2_with fail
      exact ⟨(KeepsOthers.setCell _ _ _).from _,KpB.setCell (p:=⟨W.heap.size,0,none⟩) _ (by show W.heap.size+1≠W.heap.size;omega) (fun q hq=>by have:=HAB.o q hq;show q≠W.heap.size;omega),(HI2.o.oth).trans (KeepsOthers.setCell _ _ _),HI2.o.low.setCell (p:=⟨W.heap.size,0,none⟩) (by show H≤W.heap.size;omega) _,HI2.o.R1.af _ (by show H+2≠W.heap.size;omega),HI2.o.R2.af _ (by show H+3≠W.heap.size;omega),by
        have:=HI2.o.box.put 0 (.string (eB (iA (bkT Cv)) x2.1.2));rw [vZ,show bkT [x2]= [x2.1.2] from rfl,lv];exact this⟩
    case do2=>
      intro xs W2 hS hI2;have b0:=hI2.box.cell 0;have r1:=hI2.R1.cell 0;have f1:=hI2.R1.free 0;have r2:=hI2.R2.cell 0;have f2:=hI2.R2.free 0;rw [show bkT xs=LL.reverse from hS] at b0;have HI2:=Hd hI2;clear hI2 hS
      gi_wp2_with fail
      exact ⟨(HI2.o.oth.trans (KeepsOthers.setCell _ _ _)).trans (KeepsOthers.setCell _ _ _),rfl,(HI2.o.low.setCell (p:=⟨H+1+1,0,none⟩) (by show H≤H+1+1;omega) _).setCell (p:=⟨H+1+1+1,0,none⟩) (by show H≤H+1+1+1;omega) _,
        ⟨pre,rfl,MV.o,by rw [HLL.o];exact (HI2.o.R1.put 0 _).af _ (by show H+2≠H+1+1+1;omega)⟩,(HI2.o.R2.af (p:=⟨H+1+1,0,none⟩) _ (by show H+3≠H+1+1;omega)).put 0 _,hGH⟩
    case st2=>intro _ _ _ _ h;exact h.elim
  · have HNO:=Hd (show ∀ y∈pre ++ [(xd,xi)],y≠(0,1) from fun y hy=>by
      rcases List.mem_append.1 hy with hy | hy
      · exact hI.no y hy
      · rw [List.mem_singleton] at hy;subst hy;intro e;injection e with e1 e2;exact hx ⟨e1,e2⟩)
    by_cases hxi:xi=1
    · subst hxi;have b0:=(aM (fun h0:xd=0=>hx ⟨h0,rfl⟩)).1;clear hx
      gi_wp2_with fail
      exact ⟨KeepsOthers.refl _,⟨Below.refl _ _,fun _ _ _ _ _ h=>h⟩,hI.low,hI.V,hI.R1,hI.R2,by rw [qM,qL];simpa [jy] using hI.N,HNO.o,hI.hG⟩
    · have b1:=(aM hxi).2;have b0:=(aM hxi).1;have HXI:=Hd hxi;clear hxi hx
      gi_wp2_with fail
      clear x0 x1 b0 b1;obtain ⟨v,hN,hO⟩:=hI.N;have HI:=Hd hI;have HX:=Hd hX;have HO:=Hd hO;have HLEN:=Hd hlen;clear hI hX hO hlen;have HIN:=Hd (show bV W W.heap.size A ds from (hf.keep HI.o.low (by omega)).more (by have:=HI.o.hG;have:=HI.o.V.lt;omega));have HVV:=Hd HI.o.V;have J0:=Hd (show Blk W.drew G 49 #[v]∧bG W.drew (G+3) v (jy (ds.map Dm.dv) pre)∧Below W.heap.size W W.drew from ⟨hN.below (Below.refl _ _).drew,bG.below HO.o (Below.refl _ _).drew,(Below.refl _ _).drew⟩);refine iZ (fun W' =>Blk W' H 31 #[slV A n c,slV Am nm cm]∧Blk W' g 44 #[.int .i64 xd, .int .i64 xi]) (fun hlo=>by obtain ⟨_,_,h⟩:=hlo;exact h) rfl (by kernel_rfl) ⟨Blk.below HI.o.V (Below.refl _ _).drew,Blk.below HX.o (Below.refl _ _).drew⟩ (fun hHeld=>?_);refine tk hHeld 1 ?_ ?_ (tk hHeld 2 ?_ ?_ ?_);iterate 2
        rotate_left
        · intro W hSw;have s1:=hSw.1.cell 0;have s2:=hSw.1.cell 1;have s3:=hSw.2.cell 0;have s4:=hSw.2.cell 1;go_simp;try (with_reducible rfl)
      refine bg [0,3,4] [(0,42),(3,45),(4,46)] (fun W' =>Blk W' G 49 #[v]∧bG W' (G+3) v (jy (ds.map Dm.dv) pre)∧Below W.heap.size W W') (VWh v (dS (ds.map Dm.dv) xd xi)) (fun A B=>Below A.heap.size A B) 2 hHeld J0.o rfl (by kernel_rfl) (by kernel_rfl) (fun A B hb=>⟨fun h=>⟨Blk.below h.1 hb,Blk.below h.2 hb⟩,fun h=>⟨Blk.below h.1 hb,bG.below h.2.1 hb,aa h.2.2 hb⟩,fun j x h=>VWh.below hb j x h⟩) ?steps ?fin;case steps=>
        refine aW.cons (i:=0) rfl (fun u W1 hSW hJW hpre K hK=>?_) ?_
        · dsimp only [bJ,List.foldl];have s0:=hJW.1.cell 0;go_simp;exact hK.o v _ _ (by kernel_rfl) rfl (Below.refl _ _)
        refine aW.cons (i:=3) rfl (fun u W1 hSW hJW hpre K hK=>?_) ?_
        · dsimp only [bJ,List.foldl];go_simp;go_at_call 100;refine (Gn xd xi ds A n c HN.o (slV Am nm cm) W1 ((hf.keep (HI.o.low.trans (hJW.2.2.mono (by omega))) (by omega)).more (by have:=hJW.1.lt;have:=HI.o.hG;omega))).mono ?_;rintro e W2 ⟨rfl,hb⟩;go_simp;exact hK.o (.string (dS (ds.map Dm.dv) xd xi)) _ _ (by kernel_rfl) rfl hb
        refine aW.cons (i:=4) rfl (fun u W1 hSW hJW hpre K hK=>?_) ?_
        · dsimp only [bJ,List.foldl];have e0:u 3= .string (dS (ds.map Dm.dv) xd xi):=hpre 3 rfl (by kernel_rfl);rw [← om e0] at hK;go_simp;exact hK.o (.slice (some ⟨W1.heap.size,0,none⟩) 1 1) _ _ (by kernel_rfl) ⟨W1.heap.size,rfl,yR W1 (dS (ds.map Dm.dv) xd xi)⟩ ((Below.refl _ _).alloc (Nat.le_refl _) _)
        exact aW.nil
      case fin=>
      intro u W1 hHeld hJ hV;dsimp only [bJ,List.foldl];have e0:u 0=v:=hV 0 rfl;obtain ⟨g4,e4,h4⟩:∃ g:Nat,u 4= .slice (some ⟨g,0,none⟩) 1 1∧bB W1 W1.heap.size (some ⟨g,0,none⟩) [dS (ds.map Dm.dv) xd xi]:=hV 4 rfl;simp only [e0,e4];have RW:=Hd h4;have HJ:=Hd hJ;clear h4 e0 e4 hV hJ J0;have HLN:=Hd (show (jy (ds.map Dm.dv) pre).length+1≤1000000 by
        have h1:(jy (ds.map Dm.dv) pre).length≤pre.length:=(by unfold jy;rw [List.length_map];exact List.length_filter_le _ _);have:=HLEN.o;omega)
      refine rdy1 5 (fun K hK=>?_);refine dJ (by rfl) (.tmp 42) (.tmp 46) (by rfl) (G+3) v (jy (ds.map Dm.dv) pre) (by rfl) HJ.o.2.1 W1.heap.size (some ⟨g4,0,none⟩) 1 1 [dS (ds.map Dm.dv) xd xi] (by rfl) (by rfl) RW.o HLN.o (by have:=HJ.o.2.2.size;omega) ?_;intro v5 w5 ho5 hg5 Ju;have OS:=Hd (mM HJ.o.2.1);have hh:=And.intro (hHeld.1.grown hg5 (ay OS.o hHeld.1 (by decide))) (hHeld.2.grown hg5 (ay OS.o hHeld.2 (by decide)));have G5:=Hd (HJ.o.1.grown hg5 (ay OS.o HJ.o.1 (by decide)));have HG5:=Hd hg5;have hoc:=ho5;obtain ⟨A5,c5,rfl,_⟩:=ho5.strs;have O5:=Hd hoc;generalize hl5:(jy (ds.map Dm.dv) pre ++ [dS (ds.map Dm.dv) xd xi]).length=l5 at *;clear hl5 hoc hg5 Ju ho5;refine hK.o _ _ hh (fun hHeld=>?_);clear hK K hh;have c0:=G5.o.cell 0;have f0:=G5.o.free 0;refine rdy1 6 (fun K hK=>?_);have hh:=And.intro (hHeld.1.af (p:=⟨G,0,none⟩) (.slice A5 l5 c5) (by show H≠G;omega)) (hHeld.2.af (p:=⟨G,0,none⟩) (.slice A5 l5 c5) (by show g≠G;omega));go_simp;refine hK.o _ _ hh (fun hHeld=>?_);clear hK K hh c0 f0;refine wpAnyH_done (by kernel_rfl) ?_ _;have HKO:=Hd (show KeepsOthers W w5 from (KeepsOthers.trans ⟨HJ.o.2.2.size,fun q o hq _=>(HJ.o.2.2.block q (Array.getElem?_eq_some_iff.1 hq).1).trans hq⟩ (KeepsOthers.of_grownBy HG5.o (wu HJ.o.2.1))));have HB5:=Hd (show Below H W w5 from (HJ.o.2.2.mono (by have:=HI.o.hG;have:=HI.o.V.lt;omega)).grown HG5.o (by have:=HJ.o.1.lt;omega) (fun q e=>by have:=(World.ownsRow.lt HJ.o.2.1 q e).1;omega));go_wp2_with fail;refine ⟨HKO.o.trans (KeepsOthers.setCell _ _ _),⟨HB5.o.setCell (p:=⟨G,0,none⟩) (by show H≤G;omega) _,fun b hb t cs ht hq=>?_⟩,(HI.o.low.trans HB5.o).setCell (p:=⟨G,0,none⟩) (by show H≤G;omega) _,hHeld.1,?_,?_,⟨_,G5.o.put 0 _,?_⟩,HNO.o,HI.o.hG⟩
      · have q1:=hq.keep HJ.o.2.2 hq.lt;exact (q1.grown HG5.o (ay OS.o q1 (fun e=>ht e.symm))).af _ (by show b≠G;omega)
      · have q1:=HI.o.R1.keep HJ.o.2.2 HI.o.R1.lt;exact (q1.grown HG5.o (fun e=>by have:=(World.ownsRow.lt HJ.o.2.1 _ e).1;omega)).af _ (by show H+2≠G;omega)
      · have q1:=HI.o.R2.keep HJ.o.2.2 HI.o.R2.lt;exact (q1.grown HG5.o (fun e=>by have:=(World.ownsRow.lt HJ.o.2.1 _ e).1;omega)).af _ (by show H+3≠G;omega)
      · rw [qM,oO _ HXI.o];exact bG.MU O5.o G5.o (by decide) _
 case done=>
  rintro D xs W hD rfl hI hK;exact absurd rfl (hI.no (0,1) (by simp))
 case stop=>
  rintro D c pre W hD ⟨rest,hS⟩ hI hK;obtain ⟨q,rfl,hq,r1⟩:=hI.ans;have r2:=hI.R2;have hlow:=hI.low;obtain rfl:=hI.ret;obtain rfl:q=l0:=lW hq hl0 hS;have HLT:=Hd hL;clear hI hS
  gi_wp2
  obtain ⟨d1,d2⟩:=rH r1 r2 (show H+4≤D by omega);refine ⟨by simp, .inl ⟨_,_,rfl,run_takeDeferred hK,?_⟩⟩;refine ⟨.tuple #[.string (iA (jy (ds.map Dm.dv) q).reverse), .bool true],by simp [results,Tryz.results49,go_sem,d1,d2],by rw [HLT.o],?_⟩;rw [hH];exact hlow.trans (iW W _ (by omega) (Array.getElem?_eq_some_iff.1 hK).1)
end Go.Proofs.YtollifnnpihfdaaGreatDoor
