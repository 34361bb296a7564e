import Derived.Test.YtollifnnpihfdaaGreatDoorB46
import Derived.Test.YtollifnnpihfdaaGreatDoorB47
set_option maxRecDepth 100000
set_option maxHeartbeats 64000000
set_option linter.all false
namespace Go.Proofs.YtollifnnpihfdaaGreatDoor
open Go.RowKit
def mkE (d:ExD) (ti:Int):Mk:=⟨none,0,0, .slice none 0 0,exX d.a d.ex d.p,exR d.z d.p d.o ⟨d.P,d.ps.length,d.cp⟩ ⟨d.G,d.gs.length,d.cg⟩,d.I,d.nI,d.cI,ti, [],d.is⟩
theorem I1 (d:ExD) (ti t:Int):(mkE d ti).ex t=false:=by
 show rF [] _ _ _ t=false;unfold rF;cases BQ t <;> rfl
theorem nA {m:Mk} (h:∀ t,m.ex t=false):∀ (l:List (Int×List Pr)) (L:List Rc),dA m L l=L ++ l.map (fun x=>⟨x.1,m.ti,0,x.2⟩)
 | [],L=>by simp [dA]
 | x :: l,L=>by
  show dA m (kE m L x.1 x.2) l=_;rw [nA h l];unfold kE;rw [if_neg (by rw [h];decide)];simp
def evE (d:ExD) (ti:Int) (key cwd:ByteArray):List Rc:=(BZ (mkE d ti) key d.gs cwd).map (fun x=>⟨x.1,ti,0,x.2⟩) ++ [⟨1320,ti,0, []⟩]
theorem LH (d:ExD) (ti:Int) (key cwd:ByteArray):evR (mkE d ti) key d.gs cwd=evE d ti key cwd:=by
 unfold evR evE;rw [nA (I1 d ti)];simp only [List.nil_append];rw [if_neg (by simp [BZ])];rfl
def EvW (w:World) (d:ExD) (s:Sy) (cwd:ByteArray):Prop:=∀ W,Below w.heap.size w W→
 (∀ (ti:Int) (key:ByteArray) (ru:Int),Calls Tryz.prog 17 #[.agg #[.slice none 0 0, .slice none 0 0], .agg #[.slice s.A s.n s.c, .slice s.Am s.nm s.cm], .agg d.X, .agg #[.bool true, .int .i64 ru, .string key], .int .i64 ti] W (Lx (evE d ti key cwd) W))
 ∧Calls Tryz.prog 28 #[.agg #[.slice s.A s.n s.c, .slice s.Am s.nm s.cm],flV d.p.cd d.p.ci] W (WhP cwd (decide (0 < cwd.size)) W)
theorem EA {w:World} {lo b:Nat} {d:ExD} (hd:d.Ok w lo) {s:Sy} (hs:SyO w b s) (hc:Calls10 w):∃ cwd:ByteArray,cwd.size≤586∧EvW w d s cwd:=by
 obtain ⟨ds,ms,ps,ho⟩:=hs;obtain ⟨cwd,ok,⟨h1,h2⟩,h3⟩:=uk ds s.A s.n s.c ho.few.2.2 ms s.Am s.nm s.cm ho.few.1 (by have:=ho.few.2.1;omega) ho.so d.p.cd d.p.ci;refine ⟨cwd,h1,fun W hW=>?_⟩;have hd' :eY W b s ds ms ps:=ho.below hW;refine ⟨fun ti key ru=>?_,?_⟩
 · have hoi:=hd.oi.below hW;obtain ⟨A3,c3,e3,hi3⟩:=JL.items (show JL W lo (.slice d.I d.nI d.cI) d.is from hoi);injection e3 with e3 e3n _;obtain ⟨A4,c4,e4,hs4⟩:=(nX (hd.og.below hW)).at;injection e4 with e4 _ _;have hfw:d.is.length≤1000:=(by have h5:=hd.hi.1;have h6:=lD d.z;have h7:=ow d.z;omega);have hv:=Nf (mkE d ti) ⟨rfl,e3n,by show d.nI≤1000;omega,fun t w _ _=>Cg (.slice none 0 0) (exX d.a d.ex d.p) (exR d.z d.p d.o ⟨d.P,d.ps.length,d.cp⟩ ⟨d.G,d.gs.length,d.cg⟩) d.I d.nI d.cI (d.is.map (·.1)) t w⟩ key true ru d.gs rfl (by have:=hd.hg.1;omega) s.A s.n s.c s.Am s.nm s.cm cwd W ⟨AtE.nil,Nat.zero_le _,fun x h=>by cases h⟩ (by show cz W W.heap.size d.I d.is;rw [e3];exact hi3) (by show AtE rq W W.heap.size d.G d.gs;rw [e4];exact hs4) (hc.below hW (Nat.le_refl _))
    (fun V hV=>((h3 V (hd'.below hV).files (hd'.below hV).aR).1).mono (by rintro e w' ⟨k1,k2⟩;exact ⟨⟨ok,k1⟩,k2⟩))
   rw [LH] at hv;exact hv
 · rw [← h2];exact (h3 W hd'.files hd'.aR).2
theorem EB {α β γ:Type} (f:β→γ) (h:Nat→α→β) (l:List α):(l.mapIdx h).map f=l.mapIdx (fun i a=>f (h i a)):=by
 apply List.ext_getElem
 · simp
 · intro i h1 h2;simp
section
variable (d:ExD) (ti:Int) (key cwd:ByteArray)
def Ch:List Rc:=(⟨1300,ti,0,qp (mkE d ti) key⟩ :: (if d.z=1 then [⟨1309,ti,0,uF d.gs⟩] else [])) ++ (if d.z=19∧d.gs.length=1 then [⟨1306,ti,0,Aj (mkE d ti) (d.gs.headD ⟨#[]⟩)⟩] else [])
def Ci:List Rc:=if d.is.length=0 then [] else [⟨1307,ti,0,BV cwd⟩]
def Cj:List Rc:=d.is.mapIdx fun i p=>⟨1302,ti,0,ug i p.1 p.2⟩
theorem qG:evE d ti key cwd=Ch d ti key ++ Ci d ti cwd ++ Cj d ti ++ [⟨1320,ti,0, []⟩]:=by
 unfold evE BZ Ch Ci Cj;have hz:(mkE d ti).r.n=d.z:=rfl;have hi:(mkE d ti).is=d.is:=rfl;rw [hz,hi];simp only [List.map_append,List.map_cons,List.map_nil,EB];congr 1;congr 1
 · congr 1
   · congr 1
     · split <;> rfl
     · split <;> rfl
   · split <;> rfl
theorem sU:(Cj d ti).length=d.is.length:=by unfold Cj;simp
end
theorem fu (s t:ByteArray):(txP s t).nm=s:=by unfold txP;split <;> rfl
theorem yA (s t:ByteArray):(soP s t).nm=s:=by unfold soP;split;rfl;exact fu s t
theorem yB (s:ByteArray) (n:Int):(nuP s n).nm=s:=rfl
def Pv:List ByteArray:= [⟨#[99,97,108,108]⟩,⟨#[115,117,99,99,101,115,115]⟩,⟨#[101,120,105,116]⟩,⟨#[97,48]⟩,⟨#[97,49]⟩,⟨#[97,50]⟩,⟨#[97,51]⟩,⟨#[105,116,101,109,115]⟩,⟨#[112,112,105,100]⟩,⟨#[112,105,100]⟩,⟨#[97,117,105,100]⟩,⟨#[117,105,100]⟩,⟨#[103,105,100]⟩,⟨#[101,117,105,100]⟩,⟨#[101,103,105,100]⟩,⟨#[115,101,115]⟩,⟨#[99,111,109,109]⟩,⟨#[101,120,101]⟩,⟨#[107,101,121]⟩]
theorem AU (m:Mk) (key:ByteArray):(qp m key).map (·.nm)=Pv:=by
 simp only [qp,List.map_cons,List.map_nil,fu,yA,yB];rfl
theorem AV (i:Nat) (y:Itm) (r:bE):(ug i y r).map (·.nm)= [⟨#[105,116,101,109]⟩,⟨#[110,97,109,101]⟩,⟨#[112,97,116,104]⟩,⟨#[100,101,118]⟩,⟨#[105,110,111,100,101]⟩,⟨#[109,111,100,101]⟩,⟨#[111,117,105,100]⟩,⟨#[111,103,105,100]⟩,⟨#[107,105,110,100]⟩,⟨#[114,111,108,101]⟩,⟨#[112,101,114,109]⟩]:=by
 simp only [ug,List.map_cons,List.map_nil,fu,yA,yB]
end Go.Proofs.YtollifnnpihfdaaGreatDoor
