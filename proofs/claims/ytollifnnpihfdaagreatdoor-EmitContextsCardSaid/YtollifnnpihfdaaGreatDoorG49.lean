import Derived.Test.YtollifnnpihfdaaGreatDoorG48
set_option maxRecDepth 100000
set_option maxHeartbeats 64000000
set_option linter.all false
namespace Go.Proofs.YtollifnnpihfdaaGreatDoor
open Go.RowKit
theorem WhC.below {f:FuncId} {sp:Array Value} {d i:Int} {cwd:ByteArray} {w w' :World} (h:WhC f sp d i cwd w) (hb:Below w.heap.size w w'):WhC f sp d i cwd w' :=fun W hW=>h W (aa hb hW)
structure RdS (m:Mk) (As:Option Addr) (ns cs:Nat) (Am:Option Addr) (nm cm:Nat) (sel:Bool) (ru:Int) (key cwd:ByteArray) (args:List ByteArray) (gp gx gc gv:Nat) (W:World):Prop where
 bp:Blk W gp 41 m.P
 bx:Blk W gx 31 #[slV As ns cs,slV Am nm cm]
 bc:Blk W gc 54 m.X
 bv:Blk W gv 63 (vdC sel ru key)
 rules:jr W W.heap.size m.A m.rs
 items:aU W W.heap.size m.Ai m.is
 args:AtE kD W W.heap.size m.r.gs.A args
 vw:WhC 49 #[slV As ns cs,slV Am nm cm] m.r.d m.r.i cwd W
 rw:WhC 28 #[slV As ns cs,slV Am nm cm] m.r.d m.r.i cwd W
 calls:Calls10 W
section
variable {m:Mk} {As:Option Addr} {ns cs:Nat} {Am:Option Addr} {nm cm:Nat} {sel:Bool} {ru:Int} {key cwd:ByteArray} {args:List ByteArray} {gp gx gc gv:Nat} {W W' :World}
theorem RdS.below (h:RdS m As ns cs Am nm cm sel ru key cwd args gp gx gc gv W) (hb:Below W.heap.size W W'):RdS m As ns cs Am nm cm sel ru key cwd args gp gx gc gv W' :=
 ⟨Blk.below h.bp hb,Blk.below h.bx hb,Blk.below h.bc hb,Blk.below h.bv hb,(h.rules.keep hb (Nat.le_refl _)).more hb.size,(h.items.keep hb (Nat.le_refl _)).more hb.size,(h.args.keep hb (Nat.le_refl _)).more hb.size,h.vw.below hb,h.rw.below hb,h.calls.below hb (Nat.le_refl _)⟩
end
theorem Jj (ds:List Dm) (A:Option Addr) (n c:Nat) (hn:n=ds.length) (ms:List Mt) (Am:Option Addr) (nm cm:Nat) (hnm:nm=ms.length) (hl:nm≤1000) (hok:SOk (ds.map Dm.dv) ms) (dev ino:Int) (w:World) (hf:bR w w.heap.size A ds) (hm:AtE EMt w w.heap.size Am ms):
   ∃ s:ByteArray,s.size≤586∧WhC 49 #[slV A n c,slV Am nm cm] dev ino s w∧WhC 28 #[slV A n c,slV Am nm cm] dev ino s w:=by
 obtain ⟨s,b,hs,h⟩:=yE ds A n c hn ms Am nm cm hnm hl hok dev ino;refine ⟨s,hs,fun W hW=>?_,fun W hW=>?_⟩
 · refine ((h W (hf.below hW) ((hm.keep hW (Nat.le_refl _)).more hW.size)).1).mono ?_;rintro e w' ⟨h1,h2⟩;exact ⟨⟨b,h1⟩,h2⟩
 · refine ((h W (hf.below hW) ((hm.keep hW (Nat.le_refl _)).more hW.size)).2).mono ?_;rintro e w' ⟨h1,h2⟩;exact ⟨⟨b,h1⟩,h2⟩
theorem Jk (m:Mk) (key:ByteArray) (args:List ByteArray) (cwd:ByteArray) (h:m.is.length≤1000):(evR m key args cwd).length≤1005:=by
 rw [vQ];have h1:=vP m key args cwd m.is.length (Nat.le_refl _) h;split
 · simp
 · rw [List.length_append];simp;omega
theorem pJ (m:Mk):∀ (xs:List (Int×List Pr)) (L:List Rc) (r:Rc),r∈dO m L xs→r∈L∨∃ x∈xs,r=rcM m x
 | [],L,r,h=> .inl h
 | x :: xs,L,r,h=>by
  rcases pJ m xs _ r h with h | ⟨y,hy,e⟩
  · unfold kX at h;split at h
    · exact .inl h
    · rcases List.mem_append.1 h with h | h
      · exact .inl h
      · exact .inr ⟨x,List.mem_cons_self ..,List.mem_singleton.1 h⟩
  · exact .inr ⟨y,List.mem_cons_of_mem _ hy,e⟩
theorem Jl (m:Mk) (key:ByteArray) (args:List ByteArray) (cwd:ByteArray) (x:Int×List Pr) (hx:x∈FU m key args cwd):x.2.length≤1000:=by
 unfold FU at hx;rcases List.mem_append.1 hx with hx | hx;rcases List.mem_append.1 hx with hx | hx;rcases List.mem_append.1 hx with hx | hx;rcases List.mem_append.1 hx with hx | hx
 · rw [List.mem_singleton.1 hx];show (nS m key).length≤1000;unfold nS;simp
 · split at hx
   · rw [List.mem_singleton.1 hx];show (nT args).length≤1000;unfold nT;rw [List.length_cons,List.length_mapIdx,List.length_take];omega
   · cases hx
 · split at hx
   · rw [List.mem_singleton.1 hx];show (nJ m _).length≤1000;unfold nJ;simp
   · cases hx
 · split at hx
   · cases hx
   · rw [List.mem_singleton.1 hx];show (nK cwd).length≤1000;unfold nK;simp
 · obtain ⟨i,hi,e⟩:=List.mem_mapIdx.1 hx;rw [← e];show (rG i _ _).length≤1000;unfold rG;simp
theorem MO (m:Mk) (key:ByteArray) (args:List ByteArray) (cwd:ByteArray):∀ r∈evR m key args cwd,r.ps.length≤1000000:=by
 intro r hr;unfold evR at hr;simp only at hr;have main:∀ r∈dO m [] (FU m key args cwd),r.ps.length≤1000000:=by
   intro r hr;rcases pJ m _ _ r hr with h | ⟨x,hx,e⟩
   · cases h
   · rw [e];have:=Jl m key args cwd x hx;show x.2.length≤1000000;omega
 split at hr
 · cases hr
 · rcases List.mem_append.1 hr with h | h
   · exact main r h
   · rw [List.mem_singleton.1 h];show ([]:List Pr).length≤1000000;simp
theorem Fh (m:Mk) (key:ByteArray) (args:List ByteArray) (cwd:ByteArray) (h:m.is.length≤1000) {w w' W:World} {A B:Option Addr} {n k ca cb:Nat} (h1:bZ w' w.heap.size (.slice A n ca) (evR m key args cwd)) (h2:bZ W w'.heap.size (.slice B k cb) (evR m key args cwd)) (hb:Below w'.heap.size w' W):
  Calls Tryz.prog 16 #[.slice A n ca, .slice B k cb] W fun e w' =>e= .returned (.bool true)∧Below W.heap.size W w' :=by
 obtain ⟨a1,e1⟩:=bZ.at (h1.below hb);obtain ⟨a2,e2⟩:=bZ.at h2;rw [e1,e2];exact Md _ A B _ ca cb rfl (by have:=Jk m key args cwd h;omega) (MO m key args cwd) W a1 a2
end Go.Proofs.YtollifnnpihfdaaGreatDoor
