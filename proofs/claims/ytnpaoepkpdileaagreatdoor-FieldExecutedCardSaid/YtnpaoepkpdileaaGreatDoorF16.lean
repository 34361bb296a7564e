import Derived.Test.YtnpaoepkpdileaaGreatDoorF09
import Derived.Test.YtnpaoepkpdileaaGreatDoorF15
set_option maxRecDepth 100000
set_option maxHeartbeats 64000000
set_option linter.all false
namespace Go.Proofs.YtnpaoepkpdileaaGreatDoor
open Go.RowKit
theorem fO (w:World) (cs ds es:Array Value) (s t u:TypeId):Below w.heap.size w (((w.alloc (.cells cs s)).alloc (.cells ds t)).alloc (.cells es u)):=
 (((Below.refl w.heap.size w).alloc (Nat.le_refl _) _).alloc (by simp) _).alloc (by simp;omega) _
theorem qR (x:Chg) (w:World):
  Calls Tryz.prog 121 #[flV x.dd x.di, .string x.nm,flV x.od x.oi,flV x.nd x.ni] w fun e w' =>∃ v,e= .returned v∧ay kQ w' w.heap.size v [x]∧Below w.heap.size w w' :=by
 have B0:=Hd (fO w #[.int .i64 x.dd, .int .i64 x.di] #[.int .i64 x.od, .int .i64 x.oi] #[.int .i64 x.nd, .int .i64 x.ni] 26 26 26);go_in;go_wp2_with fail;go_ret;refine ⟨_,rfl,?_,B0.o.alloc B0.o.size (.cells (chC x) 151)⟩;have h:=tK kQ (((w.alloc (.cells #[.int .i64 x.dd, .int .i64 x.di] 26)).alloc (.cells #[.int .i64 x.od, .int .i64 x.oi] 26)).alloc (.cells #[.int .i64 x.nd, .int .i64 x.ni] 26)) w.heap.size (chC x) x rfl B0.o.size;simp only [World.size_alloc] at h;exact h
theorem aL {fn:Func} {i j k:Nat} (h:fn.results=#[.cell i 39, .tmp j, .tmp k]) (tmps:Array Value) (w:World) (g:Nat) (v:Value) (hp:tmps.getD i undef= .pointer (some ⟨g,0,none⟩)) (hg:Blk w g 39 #[v]):
  (results fn tmps).run Tryz.prog w= .ok (.tuple #[.agg #[v],tmps.getD j undef,tmps.getD k undef]) w:=by
 have hp' :tmps[i]?.getD undef= .pointer (some ⟨g,0,none⟩):=by simpa using hp
 simp [results,h,hp',asAddr,run_loadVar_row w g 39 39 #[v] (0,0) _ hg Tryz.underlying39 rfl (bM v)]
theorem bf (A:Option Addr) (n c:Nat):(#[(.slice A n c:Value)]:Array Value).all (·.oneCell')=true:=by simp [Value.oneCell']
def jH (R:List Dv→List Chg→Prop) (w:World) (e:Ending) (w' :World):Prop:=
 Below w.heap.size w w' ∧((∃ k:Int,k≠0∧e= .returned (.tuple #[.agg #[.slice none 0 0], .slice none 0 0, .int .i64 k]))∨
  (∃ (A:Option Addr) (n c:Nat) (ds:List Dm) (v:Value) (cs:List Chg),n=ds.length∧e= .returned (.tuple #[fsV A n c,v, .int .i64 0])∧aD w' w.heap.size (.slice A n c) ds∧ay kQ w' w.heap.size v cs∧R (ds.map Dm.dv) cs))
structure OpF (w wr:World) (A:Option Addr) (n c:Nat) (ds:List Dm) (dev ino:Int) (r:Nat):Prop where
 low:Below w.heap.size w wr
 src:dO wr w.heap.size A ds
 V:Blk wr w.heap.size 39 #[.slice A n c]
 U:Blk wr (w.heap.size+1) 26 #[.int .i64 dev, .int .i64 ino]
 R:Blk wr r 39 #[.slice none 0 0]
 hr:w.heap.size+2≤r
 nl:n=ds.length
section
variable {w wr w' :World} {A:Option Addr} {n c r:Nat} {ds:List Dm} {dev ino:Int}
theorem OpF.grow (h:OpF w wr A n c ds dev ino r) (hb:Below wr.heap.size wr w'):OpF w w' A n c ds dev ino r:=
 ⟨h.low.trans (hb.mono h.low.size),h.src.keep hb h.low.size,h.V.below hb,h.U.below hb,h.R.below hb,h.hr,h.nl⟩
theorem OpF.keep (h:OpF w wr A n c ds dev ino r) {B:Nat} (hb:Below B wr w') (hB:r < B):OpF w w' A n c ds dev ino r:=
 ⟨h.low.trans (hb.mono (by have:=h.hr;omega)),h.src.keep hb (by have:=h.hr;omega),h.V.keep hb (by have:=h.hr;omega),h.U.keep hb (by have:=h.hr;omega),h.R.keep hb hB,h.hr,h.nl⟩
theorem OpF.alloc (h:OpF w wr A n c ds dev ino r) (o:Obj):OpF w (wr.alloc o) A n c ds dev ino r:=h.grow ((Below.refl _ _).alloc (Nat.le_refl _) _)
theorem OpF.files (h:OpF w wr A n c ds dev ino r):dO wr wr.heap.size A ds:=h.src.more h.low.size
theorem OpF.err (h:OpF w wr A n c ds dev ino r) (R:List Dv→List Chg→Prop) {k:Int} (hk:k≠0):jH R w (.returned (.tuple #[.agg #[.slice none 0 0], .slice none 0 0, .int .i64 k])) (wr.setRow r #[.slice none 0 0]):=
 ⟨ai h.low (by have:=h.hr;omega) _, .inl ⟨k,hk,rfl⟩⟩
end
theorem aD.spare {w w' :World} {base:Nat} {v:Value} {ds:List Dm} (h:aD w base v ds) {row:Option Nat} (hg:w.grownBy w' row) (hr:∀ q,row=some q→v.ownBlock=some q∨∃ d∈ds,d.sl.ownBlock=some q)
   {g:Nat} {t:TypeId} {cs:Array Value} (hb:Blk w g t cs) (h1:EDv.e≠t) (h2:ENd.e≠t):Blk w' g t cs:=hb.grown hg fun e=>by
 rcases hr g e with e2 | ⟨d,hd,e2⟩
 · exact aC h.own hb h1 e2
 · exact aC (h.nodes d hd).1 hb h2 e2
theorem aD.rT {w:World} {base:Nat} {A:Option Addr} {n c:Nat} {ds:List Dm} (h:aD w base (.slice A n c) ds):dO w w.heap.size A ds∧n=ds.length:=by
 obtain ⟨A',c',e,hat⟩:=h.at;injection e with e e2 _;subst e;exact ⟨hat,e2⟩
end Go.Proofs.YtnpaoepkpdileaaGreatDoor
