import Derived.Test.YtollifnnpihfdaaGreatDoorX46
set_option maxRecDepth 100000
set_option maxHeartbeats 64000000
set_option linter.all false
namespace Go.Proofs.YtollifnnpihfdaaGreatDoor
open Go.RowKit
theorem KA (m:Mk) (base g:Nat) (L:List Rc) (key:ByteArray) (hL:L.length < 2000) (w:World) (hE:EvG m w base g L) (hc:Calls10 w):
  Calls Tryz.prog 44 #[.pointer (some ⟨g,0,none⟩), .string key] w (yV m base g (jU m L 1300 (sD m key)) w):=by
 have h:=Ky m base g L key hL _ _ _ _ _ (fun w=>jL _ _ w) (fun w=>jL _ _ w) (fun w=>pg _ _ w) (fun w=>pg _ _ w) (fun w=>pg _ _ w) w hE hc;unfold sD nuP;rw [← hE.ok.hi];exact h
theorem GK (m:Mk) (base g:Nat) (L:List Rc) (hL:L.length < 2000) (i:Nat) (y:Itm) (r:bB) (w:World) (hE:EvG m w base g L):
  Calls Tryz.prog 51 #[.pointer (some ⟨g,0,none⟩), .int .i64 (i:Int),rR y r] w (yV m base g (jU m L 1302 (yX i y r)) w):=by
 have h:=GH m base g L hL (i:Int) y r _ _ _ _ (fun w=>jL _ _ w) (fun w=>pg _ _ w) (fun w=>jL _ _ w) (fun w=>jL _ _ w) w hE;unfold yX nuP;exact h
theorem wI (m:Mk) (w:World) (base:Nat) (hb:base≤w.heap.size) (hr:lC w base m.A m.rs) (hi:cz w base m.Ai m.is) (ho:m.Ok):EvG m (w.alloc (.cells (m.C (.slice none 0 0)) 124)) base w.heap.size []:=by
 have hk:Below base w (w.alloc (.cells (m.C (.slice none 0 0)) 124)):=(Below.refl base w).alloc hb _;exact ⟨⟨_,Blk.new w _ _,dK.nil _ _⟩,hb,hr.keep hk (Nat.le_refl _),hi.keep hk (Nat.le_refl _),ho,Nat.zero_le _⟩
theorem EvG.recs {m:Mk} {w:World} {base g:Nat} {L:List Rc} (h:EvG m w base g L):∃ (A:Option Addr) (n c:Nat),w.cell? ⟨g,28,none⟩=some (.slice A n c)∧n=L.length∧dK w base (.slice A n c) L:=by
 obtain ⟨v,h1,h2⟩:=h.blk;obtain ⟨xs,e,ho,hp⟩:=h2;obtain ⟨A,c,rfl,_⟩:=ho.at;exact ⟨A,xs.length,c,(h1.cell 28).trans (m.c28 _),by rw [← e,List.length_map],xs,e,ho,hp⟩
theorem dK.end {w w' :World} {base:Nat} {v v' :Value} {L:List Rc} (h:dK w base v L) (t ti:Int) {xs:List Rm} (e:xs.map (·.r)=L) (ho:ax ER w base v xs) (hp:∀ x∈xs,ax EP w base x.sl x.r.ps) (hn:ax ER w' base v' (xs ++ [⟨⟨t,ti,0, []⟩,none,0⟩])) (hg:w.grownBy w' v.ownBlock):dK w' base v' (L ++ [⟨t,ti,0, []⟩]):=
 h.app ⟨⟨t,ti,0, []⟩,none,0⟩ e ho hp (ax.nil _ _) hn hg
end Go.Proofs.YtollifnnpihfdaaGreatDoor
