import Derived.Test.YtnpaoepkpdileaaGreatDoorF21
import Derived.Test.YtnpaoepkpdileaaGreatDoorF22
set_option maxRecDepth 100000
set_option maxHeartbeats 64000000
set_option linter.all false
namespace Go.Proofs.YtnpaoepkpdileaaGreatDoor
open Go.RowKit
theorem gy (u m:Value):(Tryz.prog.info? 42).map (·.size)=some (spC u m).size:=by show _=some 2;kernel_rfl
theorem fe (A:Option Addr) (n c:Nat) (Am:Option Addr) (nm cm:Nat):(spC (slV A n c) (slV Am nm cm)).all (·.oneCell')=true:=by simp [Value.oneCell']
theorem Ck {fn:Func} {i:Nat} (h:fn.results=#[.cell i 42]) (tmps:Array Value) (w:World) (g:Nat) (u m:Value) (hp:tmps.getD i undef= .pointer (some ⟨g,0,none⟩)) (hg:Blk w g 42 (spC u m)):
  (results fn tmps).run Tryz.prog w= .ok (.agg (spC u m)) w:=
 results_cell_row h tmps w g _ (spC u m) (0,0) _ hp hg Tryz.underlying42 rfl (gy u m)
theorem dQ {fn:Func} {i j:Nat} (h:fn.results=#[.cell i 42, .tmp j]) (tmps:Array Value) (w:World) (g:Nat) (u m:Value) (hp:tmps.getD i undef= .pointer (some ⟨g,0,none⟩)) (hg:Blk w g 42 (spC u m)):
  (results fn tmps).run Tryz.prog w= .ok (.tuple #[.agg (spC u m),tmps.getD j undef]) w:=by
 have hp' :tmps[i]?.getD undef= .pointer (some ⟨g,0,none⟩):=by simpa using hp
 simp [results,h,hp',asAddr,run_loadVar_row w g 42 42 (spC u m) (0,0) _ hg Tryz.underlying42 rfl (gy u m)]
def Cm (f:List Dv) (ms:List Mt) (w:World) (e:Ending) (w' :World):Prop:=
 ∃ (A:Option Addr) (n c:Nat) (Am:Option Addr) (nm cm:Nat) (ds:List Dm),e= .returned (.agg (spC (slV A n c) (slV Am nm cm)))∧aD w' w.heap.size (slV A n c) ds∧ds.map Dm.dv=f∧ay EMt w' w.heap.size (slV Am nm cm) ms∧Below w.heap.size w w'
theorem o7 (ds:List Dm) (A:Option Addr) (n c:Nat) (hn:n=ds.length) (ms:List Mt) (Am:Option Addr) (nm cm:Nat) (hnm:nm=ms.length) (hl:nm≤1000) (w:World) (hf:dO w w.heap.size A ds) (hm:AtE EMt w w.heap.size Am ms):
   Calls Tryz.prog 52 #[.agg #[slV A n c,slV Am nm cm]] w (Cm (ds.map Dm.dv) ms w):=by
 have HN:=Hd hn;have HNM:=Hd hnm;have B0:=Hd (aY w #[slV A n c,slV Am nm cm] #[.slice none 0 0, .slice none 0 0] 42 42);have F0:=Hd (hf.below B0.o);have M0:=Hd (hm.below B0.o);have V0:=Hd ((Blk.new w #[slV A n c,slV Am nm cm] 42).alloc (.cells #[.slice none 0 0, .slice none 0 0] 42));have R0:=Hd (show Blk ((w.alloc (.cells #[slV A n c,slV Am nm cm] 42)).alloc (.cells #[.slice none 0 0, .slice none 0 0] 42)) (w.heap.size+1) 42 #[.slice none 0 0, .slice none 0 0] by
   have h:=Blk.new (w.alloc (.cells #[slV A n c,slV Am nm cm] 42)) #[.slice none 0 0, .slice none 0 0] 42;simp only [World.size_alloc] at h;exact h)
 clear hf hm hn hnm;go_in;go_upto_region 1 with fail;generalize (w.alloc (.cells #[slV A n c,slV Am nm cm] 42)).alloc (.cells #[.slice none 0 0, .slice none 0 0] 42)=w0 at *;refine wp_region_held_drew (S:=(fun W=>Blk W w.heap.size 42 #[slV A n c,slV Am nm cm])) (by kernel_rfl) V0.o (fun hHeld=>?_);refine tk hHeld 0 ?_ ?_ (tk hHeld 1 ?_ ?_ (tk hHeld 3 ?_ ?_ (tk hHeld 4 ?_ ?_ ?_)));iterate 4
   rotate_left
   · intro W hSw;have v0:=hSw.cell 0;have v1:=hSw.cell 1;go_simp;try (with_reducible rfl)
 refine rdy1 2 (fun K hK=>?_);go_simp;go_at_call 74;refine (jG ds A n c HN.o _ (F0.o.below (Below.refl w0.heap.size w0).drew)).mono ?_;rintro e w1 ⟨v,es,rfl,ho,he,hb⟩;have hb:Below w0.heap.size w0 w1:=aa (Below.refl w0.heap.size w0).drew hb;obtain ⟨A1,c1,rfl,_⟩:=ho.at;have F1:=Hd (show aD w1 w0.heap.size (.slice A1 es.length c1) es from ho);have HE:=Hd he;have B1:=Hd (B0.o.trans (hb.mono B0.o.size));have V1:=Hd (V0.o.below hb);have R1:=Hd (R0.o.below hb);have M1:=Hd (M0.o.below hb);have hw0:w0.heap.size≤w1.heap.size:=hb.size;have hr0:=R0.o.lt;have hww:=B0.o.size;clear ho he hb V0 R0 F0 M0;go_simp;refine hK.o _ _ V1.o (fun hHeld=>?_);clear hK K;refine rdy1 5 (fun K hK=>?_);refine bP EMt (by rfl) (.const (.slice none 0 0)) (.tmp 7) (by rfl) w1.heap.size (.slice none 0 0) [] (by rfl) (ay.nil _ _) w1.heap.size Am nm cm ms (by rfl) HNM.o M1.o (by have:=HNM.o;simp;omega) (Nat.le_refl _) ?_;intro v2 w2 ho2 hg2 Cn;have ho2:ay EMt w2 w1.heap.size v2 ms:=ho2;obtain ⟨A2,c2,rfl,_⟩:=ho2.at;have hnone:∀ {q:Nat},(Value.slice none 0 0).ownBlock≠some q:=fun e=>by cases e
 have V2:=Hd (V1.o.grown hg2 hnone);have R2:=Hd (R1.o.grown hg2 hnone);have F2:=Hd (F1.o.far hg2 (fun q e=>absurd e hnone));have O2:=Hd ho2;have B2:=Hd (B1.o.grown hg2 B1.o.size (fun q e=>absurd e hnone));have hw1:w1.heap.size≤w2.heap.size:=hg2.size;clear ho2 hg2 Cn V1 R1 F1 M1 B1;refine hK.o _ _ V2.o (fun hHeld=>?_);clear hK K;refine tk hHeld 6 ?_ ?_ ?_;rotate_left
 · intro W hSw;go_simp;try (with_reducible rfl)
 have r0:=R2.o.cell 0;have r1:=R2.o.cell 1;have f0:=R2.o.free 0;have f1:=R2.o.free 1;have hh:∀ u v:Value,Blk ((w2.setCell ⟨w.heap.size+1,0,none⟩ u).setCell ⟨w.heap.size+1,1,none⟩ v) w.heap.size 42 #[slV A n c,slV Am nm cm]:=fun u v=>(V2.o.ag _ (by show w.heap.size≠w.heap.size+1;omega)).ag _ (by show w.heap.size≠w.heap.size+1;omega);refine rdy1 7 (fun K hK=>?_);go_simp;refine hK.o _ _ (hh _ _) (fun hHeld=>?_);clear hK K;clear r0 r1 f0 f1 hh;refine wpAnyH_done (by kernel_rfl) ?_ _;go_wp2_with fail;refine bodyPost_ret (Ck (fn:=Tryz.f52) rfl _ _ (w.heap.size+1) (.slice A1 es.length c1) (.slice A2 ms.length c2) rfl ((R2.o.put 0 _).put 1 _)) rfl ?_;have g1:=av w2 (w.heap.size+1) 0 (.slice A1 es.length c1);have g2:=av (w2.setCell ⟨w.heap.size+1,0,none⟩ (.slice A1 es.length c1)) (w.heap.size+1) 1 (.slice A2 ms.length c2);exact ⟨A1,es.length,c1,A2,ms.length,c2,es,rfl,(((F2.o.far g1 (fun q e=>by injection e with e;subst e;exact F2.o.old hr0)).far g2 (fun q e=>by injection e with e;subst e;exact F2.o.old hr0)).low hww),HE.o,
   (((O2.o.far g1 (fun q e r=>by injection r with r;have:=O2.o.ge q e;omega)).far g2 (fun q e r=>by injection r with r;have:=O2.o.ge q e;omega)).low (by omega)),(B2.o.setCell (p:=⟨w.heap.size+1,0,none⟩) (by show w.heap.size≤w.heap.size+1;omega) _).setCell (p:=⟨w.heap.size+1,1,none⟩) (by show w.heap.size≤w.heap.size+1;omega) _⟩
end Go.Proofs.YtnpaoepkpdileaaGreatDoor
