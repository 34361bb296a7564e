import Derived.Test.YtollifnnpihfdaaGreatDoorW48
import Derived.Test.YtollifnnpihfdaaGreatDoorW42
import Derived.Test.YtollifnnpihfdaaGreatDoorW46
set_option maxRecDepth 100000
set_option maxHeartbeats 64000000
set_option linter.all false
namespace Go.Proofs.YtollifnnpihfdaaGreatDoor
open Go.RowKit
theorem oU (ds:List Dm) (A:Option Addr) (n c:Nat) (hn:n=ds.length) (ms:List Mt) (Am:Option Addr) (nm cm:Nat) (hnm:nm=ms.length) (hl:nm≤1000) {dev ino:Int}
  (hno:(bI (ds.map Dm.dv) dev ino && eU ms dev)=false) (w:World) (hf:bV w w.heap.size A ds) (hm:AtE EMt w w.heap.size Am ms):
  Calls Tryz.prog 49 #[.agg #[slV A n c,slV Am nm cm],flV dev ino] w (WhP ⟨#[]⟩ false w):=by
 obtain ⟨H,hH⟩:∃ H,w.heap.size=H:=⟨_,rfl⟩;obtain ⟨w0,hw0⟩:∃ w0,w0=(((w.alloc (.cells #[slV A n c,slV Am nm cm] 31)).alloc (.cells #[.int .i64 dev, .int .i64 ino] 44)).alloc (.cells #[.string ⟨#[]⟩] 9)).alloc (.cells #[.bool false] 4):=⟨_,rfl⟩;have B0:Below H w w0:=by rw [hw0, ← hH];exact ((((Below.refl _ _).alloc (Nat.le_refl _) _).alloc (by simp) _).alloc (by simp;omega) _).alloc (by simp;omega) _
 have hs0:w0.heap.size=H+4:=by rw [hw0, ← hH];simp
 have V0:Blk w0 H 31 #[slV A n c,slV Am nm cm]:=by rw [hw0, ← hH];exact (((Blk.new w _ _).alloc _).alloc _).alloc _
 have U0:Blk w0 (H+1) 44 #[.int .i64 dev, .int .i64 ino]:=by
  have:=Blk.new (w.alloc (.cells #[slV A n c,slV Am nm cm] 31)) #[.int .i64 dev, .int .i64 ino] 44;simp only [World.size_alloc,hH] at this;rw [hw0];exact (this.alloc _).alloc _
 have R1:Blk w0 (H+2) 9 #[.string ⟨#[]⟩]:=by
  have:=Blk.new ((w.alloc (.cells #[slV A n c,slV Am nm cm] 31)).alloc (.cells #[.int .i64 dev, .int .i64 ino] 44)) #[.string ⟨#[]⟩] 9;simp only [World.size_alloc,hH] at this;rw [hw0];exact this.alloc _
 have R2:Blk w0 (H+3) 4 #[.bool false]:=by
  have:=Blk.new (((w.alloc (.cells #[slV A n c,slV Am nm cm] 31)).alloc (.cells #[.int .i64 dev, .int .i64 ino] 44)).alloc (.cells #[.string ⟨#[]⟩] 9)) #[.bool false] 4;simp only [World.size_alloc,hH] at this;rw [hw0];exact this
 have F0:=hf.keep B0 (by omega);have M0:=hm.keep B0 (by omega);have HN:=Hd hn;have HNM:=Hd hnm;have HNO:=Hd hno;clear hn hnm hno;refine (callsIn_wide (n:=20)).1 ?_;refine callsIn_of_wp_marks Tryz.func49 rfl trivial ?_ rfl;simp only [Tryz.ntmps49,List.size_toArray,List.length_cons,List.length_nil,Nat.reduceAdd,Nat.reduceSub,Array.replicate_succ,Array.replicate_zero,List.push_toArray,List.append_toArray,List.nil_append,List.cons_append]
 gi_wp2_with fail
 rw [← hw0];clear hw0;refine ⟨trivial,(callsIn_wide.2 (zO dev ino ds A n c HN.o (slV Am nm cm) w0 (F0.more (by omega)))).mono ?_⟩;rintro en w1 ⟨rfl,hb1⟩;have V1:=V0.below hb1;have U1:=U0.below hb1;have R11:=R1.below hb1;have R21:=R2.below hb1;have F1:=F0.keep hb1 (by omega);have M1:=M0.keep hb1 (by omega);have B1:Below H w w1:=B0.trans (hb1.mono (by omega));have hs1:H+4≤w1.heap.size:=by have:=hb1.size;omega
 clear hb1 V0 U0 R1 R2 F0 M0 B0 hs0 w0;have u0:=U1.cell 0;have v0:=V1.cell 0;have v1:=V1.cell 1;cases hd:bI (ds.map Dm.dv) dev ino with
 | false=>
  have r0:=R11.cell 0;have g0:=R11.free 0;have r2:=R21.cell 0;have g2:=R21.free 0
  gi_wp2_with fail
  refine ⟨trivial,?_⟩
  gi_wp2_with fail
  have q1:Blk ((w1.setCell ⟨H+1+1,0,none⟩ (.string ⟨#[]⟩)).setCell ⟨H+1+1+1,0,none⟩ (.bool false)) (H+1+1) 9 #[.string ⟨#[]⟩]:=(R11.put 0 _).af _ (by show H+1+1≠H+1+1+1;omega);have q2:Blk ((w1.setCell ⟨H+1+1,0,none⟩ (.string ⟨#[]⟩)).setCell ⟨H+1+1+1,0,none⟩ (.bool false)) (H+1+1+1) 4 #[.bool false]:=(R21.af (p:=⟨H+1+1,0,none⟩) _ (by show H+3≠H+1+1;omega)).put 0 _;have d1:=q1.cell 0;have d2:=q2.cell 0;refine ⟨.tuple #[.string ⟨#[]⟩, .bool false],by simp [results,Tryz.results49,go_sem,d1,d2],rfl,?_⟩;rw [hH];exact (B1.setCell (p:=⟨H+1+1,0,none⟩) (by show H≤H+1+1;omega) _).setCell (p:=⟨H+1+1+1,0,none⟩) (by show H≤H+1+1+1;omega) _
 | true=>
  have hmt:eU ms dev=false:=by have h:=HNO.o;rw [hd,Bool.true_and] at h;exact h
  gi_wp2_with fail
  clear u0 v0 v1;refine ⟨trivial,(callsIn_wide.2 (Gm dev (slV A n c) ms Am nm cm HNM.o hl w1 (M1.more (by omega)))).mono ?_⟩;rw [hmt];rintro en w2 ⟨rfl,hb1⟩;have R12:=R11.below hb1;have R22:=R21.below hb1;have B2:Below H w w2:=B1.trans (hb1.mono (by omega));clear hb1 V1 U1 R11 R21 F1 M1 B1;have r0:=R12.cell 0;have g0:=R12.free 0;have r2:=R22.cell 0;have g2:=R22.free 0
  gi_wp2_with fail
  have q1:Blk ((w2.setCell ⟨H+1+1,0,none⟩ (.string ⟨#[]⟩)).setCell ⟨H+1+1+1,0,none⟩ (.bool false)) (H+1+1) 9 #[.string ⟨#[]⟩]:=(R12.put 0 _).af _ (by show H+1+1≠H+1+1+1;omega);have q2:Blk ((w2.setCell ⟨H+1+1,0,none⟩ (.string ⟨#[]⟩)).setCell ⟨H+1+1+1,0,none⟩ (.bool false)) (H+1+1+1) 4 #[.bool false]:=(R22.af (p:=⟨H+1+1,0,none⟩) _ (by show H+3≠H+1+1;omega)).put 0 _;have d1:=q1.cell 0;have d2:=q2.cell 0;refine ⟨.tuple #[.string ⟨#[]⟩, .bool false],by simp [results,Tryz.results49,go_sem,d1,d2],rfl,?_⟩;rw [hH];exact (B2.setCell (p:=⟨H+1+1,0,none⟩) (by show H≤H+1+1;omega) _).setCell (p:=⟨H+1+1+1,0,none⟩) (by show H≤H+1+1+1;omega) _
theorem yS {f:List Dv} (h:FOk f):wO f≤1000:=by
 have:∀ l:List Dv,(∀ d∈l,d.ns.length≤16)→(l.map (fun d=>d.ns.length)).sum≤16 * l.length:=by
  intro l;induction l with
  | nil=>intro _;simp
  | cons a l ih=>
   intro hl;have h1:=ih (fun d hd=>hl d (List.mem_cons_of_mem _ hd));have h2:=hl a (List.mem_cons_self ..);simp only [List.map_cons,List.sum_cons,List.length_cons];omega
 have h1:=this f (fun d hd=>(h.2.2 d hd).few);have h2:=h.2.1;unfold wO;omega
theorem iq:∀ (L:List ByteArray) (d:ByteArray),0 < d.size→0 < (L.foldl eB d).size
 | [],_,h=>h
 | a :: L,d,h=>iq L (eB d a) (by unfold eB;split <;> simp only [ByteArray.size_append] <;> omega)
theorem rJ (ds:List Dm) (A:Option Addr) (n c:Nat) (hn:n=ds.length) (ms:List Mt) (Am:Option Addr) (nm cm:Nat) (hnm:nm=ms.length) (hl:nm≤1000) (hok:SOk (ds.map Dm.dv) ms) (dev ino:Int):
   ∃ (s:ByteArray) (b:Bool),(s.size≤586∧b=decide (0 < s.size))∧∀ w:World,bV w w.heap.size A ds→AtE EMt w w.heap.size Am ms→
    Calls Tryz.prog 49 #[.agg #[slV A n c,slV Am nm cm],flV dev ino] w (WhP s b w)∧Calls Tryz.prog 28 #[.agg #[slV A n c,slV Am nm cm],flV dev ino] w (WhP s b w):=by
 by_cases h:(bI (ds.map Dm.dv) dev ino && eU ms dev)=true
 · have h0:=Bool.and_eq_true .. ▸ h;obtain ⟨L,k,h1,h2,h3⟩:=hok.Dz h0.2 h0.1;exact ⟨iA L,true,⟨jm (h1.names hok.1) h2,(decide_eq_true (iq L _ (by decide))).symm⟩,fun w hf hm=>⟨wE ds A n c hn ms Am nm cm hnm hl hok.1 h1 h3 (Nat.le_trans h3 (yS hok.1)) h0.1 h0.2 w hf hm,nU ds A n c hn ms Am nm cm hnm hl hok.1 hok.2.zero h1 h2 w hf hm⟩⟩
 · have h0:(bI (ds.map Dm.dv) dev ino && eU ms dev)=false:=(by simpa using h);exact ⟨⟨#[]⟩,false,⟨by decide,by decide⟩,fun w hf hm=>⟨oU ds A n c hn ms Am nm cm hnm hl h0 w hf hm,nT dev ino ds A n c hn ms Am nm cm hnm hl w hf hm h0⟩⟩
theorem Cy (v:Value) (w:World):Calls Tryz.prog 220 #[.slice none 0 0,v] w fun e w' =>e= .returned (.int .i64 (-1))∧Below w.heap.size w w' :=by
 go_in;go_wp2_with fail;go_loopw [9] (fun i wr=>i= .int .i64 0∧Below w.heap.size w wr) (fun _ _=>0);case atStart=>exact ⟨rfl,Below.refl _ _⟩
 case round=>
  obtain ⟨rfl,hb⟩:=hrel;go_wp2_with fail;go_ret;exact ⟨rfl,hb⟩
attribute [-go_sem] loadVar
attribute [local go_sem] BI BK FB FC FD
attribute [local irreducible] gu
theorem Cz (li:Int) (cx:Ctx) (cr:dX) (Ai:Option Addr) (ni ci:Nat) (w:World):Calls Tryz.prog 157 #[.slice none 0 0, .int .i64 li, .slice none 0 0,Kv cx cr (.slice Ai ni ci)] w fun e w' =>e= .returned (.int .i64 (-1))∧Below w.heap.size w w' :=by
 have s1:(w.alloc (.cells #[.int .i64 li] 3)).heap.size=w.heap.size+1:=by simp
 have s2:((w.alloc (.cells #[.int .i64 li] 3)).alloc (.cells #[.slice none 0 0] 203)).heap.size=w.heap.size+1+1:=by simp
 have B0:=Hd (show Below w.heap.size w (((w.alloc (.cells #[.int .i64 li] 3)).alloc (.cells #[.slice none 0 0] 203)).alloc (.cells (gu cx cr (.slice Ai ni ci)) 54)) from (((Below.refl w.heap.size w).alloc (Nat.le_refl _) _).alloc (by rw [s1];omega) _).alloc (by rw [s2];omega) _);clear s1 s2;go_in;go_upto_region 1 with fail;generalize ((w.alloc (.cells #[.int .i64 li] 3)).alloc (.cells #[.slice none 0 0] 203)).alloc (.cells (gu cx cr (.slice Ai ni ci)) 54)=W at *;go_wp2_with fail;refine (Cy _ W).mono ?_;rintro e w1 ⟨rfl,hb⟩;have B1:=Hd (aa B0.o hb);clear hb;go_wp2_with fail;go_ret;exact ⟨rfl,B1.o⟩
theorem zQ (v2:Value) (cx:Ctx) (cr:dX) (Ai:Option Addr) (ni ci:Nat) (L:List Itm) (t:Int) (w:World):
  Calls Tryz.prog 94 #[.agg #[.slice none 0 0,v2],Kv cx cr (.slice Ai ni ci), .int .i64 t] w fun e w' =>e= .returned (.bool (pI [] cx cr.n L t))∧Below w.heap.size w w' :=by
 have HE:=Hd (show pI [] cx cr.n L t=false by unfold pI;cases zH t <;> rfl)
 rw [HE.o];have B0:=Hd (show Below w.heap.size w ((w.alloc (.cells #[.slice none 0 0,v2] 41)).alloc (.cells (gu cx cr (.slice Ai ni ci)) 54)) from ((Below.refl w.heap.size w).alloc (Nat.le_refl _) _).alloc (by simp) _);have V0:=Hd ((Blk.new w #[.slice none 0 0,v2] 41).alloc (.cells (gu cx cr (.slice Ai ni ci)) 54));have C0:=Hd (show gZ ((w.alloc (.cells #[.slice none 0 0,v2] 41)).alloc (.cells (gu cx cr (.slice Ai ni ci)) 54)) (w.heap.size+1) cx cr (.slice Ai ni ci) by
  have h:=Blk.new (w.alloc (.cells #[.slice none 0 0,v2] 41)) (gu cx cr (.slice Ai ni ci)) 54;simpa using h)
 cases ht:zH t with
 | false=>
  obtain ⟨n1,n2,n3,n4,n5,n6⟩:=FE ht;clear ht;go_in;go_wp2_with fail;go_ret;exact ⟨rfl,B0.o⟩
 | true=>
  go_in;go_upto_region 1 with fail;generalize (w.alloc (.cells #[.slice none 0 0,v2] 41)).alloc (.cells (gu cx cr (.slice Ai ni ci)) 54)=W at *;have h6:=BQ ht;clear ht;have c24:=C0.o.ty;have f24:=C0.o.free 24;have C1:=Hd (show gZ (W.setCell ⟨w.heap.size+1,24,none⟩ (.int .i64 t)) (w.heap.size+1) { cx with ty:=t } cr (.slice Ai ni ci) by have h:=C0.o.put 24 (.int .i64 t);rw [yx] at h;exact h);have V1:=Hd (V0.o.af (.int .i64 t) (show w.heap.size≠(⟨w.heap.size+1,24,none⟩:Addr).block by simp));have B1:=Hd (B0.o.setCell (p:=⟨w.heap.size+1,24,none⟩) (by simp) (.int .i64 t));have hl:=zI C1.o;have v0:=V1.o.cell 0;have vv0:=V0.o.cell 0;rcases h6 with rfl | rfl | rfl | rfl | rfl | rfl;all_goals
   go_wp2_with fail;clear hl v0 vv0 c24 f24;refine (Cz 5 _ cr Ai ni ci _).mono ?_;rintro e W2 ⟨rfl,hb⟩;have B2:=Hd (aa B1.o hb);clear hb;go_wp2_with fail;go_ret;exact ⟨rfl,B2.o⟩
end Go.Proofs.YtollifnnpihfdaaGreatDoor
namespace Go.Proofs.YtollifnnpihfdaaGreatDoor
open Go.RowKit
def mkE (d:ExD) (ti:Int):Mk:=⟨none,0,0, .slice none 0 0,exX d.a d.ex d.p,exR d.z d.p d.o ⟨d.P,d.ps.length,d.cp⟩ ⟨d.G,d.gs.length,d.cg⟩,d.I,d.nI,d.cI,ti, [],d.is⟩
theorem Gr (d:ExD) (ti t:Int):(mkE d ti).ex t=false:=by
 show pI [] _ _ _ t=false;unfold pI;cases zH t <;> rfl
theorem lX {m:Mk} (h:∀ t,m.ex t=false):∀ (l:List (Int×List Pr)) (L:List Rc),df m L l=L ++ l.map (fun x=>⟨x.1,m.ti,0,x.2⟩)
 | [],L=>by simp [df]
 | x :: l,L=>by
  show df m (jL m L x.1 x.2) l=_;rw [lX h l];unfold jL;rw [if_neg (by rw [h];decide)];simp
def evE (d:ExD) (ti:Int) (key cwd:ByteArray):List Rc:=(yC (mkE d ti) key d.gs cwd).map (fun x=>⟨x.1,ti,0,x.2⟩) ++ [⟨1320,ti,0, []⟩]
theorem JR (d:ExD) (ti:Int) (key cwd:ByteArray):evR (mkE d ti) key d.gs cwd=evE d ti key cwd:=by
 unfold evR evE;rw [lX (Gr d ti)];simp only [List.nil_append];rw [if_neg (by simp [yC])];rfl
def EvW (w:World) (d:ExD) (s:Sy) (cwd:ByteArray):Prop:=∀ W,Below w.heap.size w W→
 (∀ (ti:Int) (key:ByteArray) (ru:Int),Calls Tryz.prog 17 #[.agg #[.slice none 0 0, .slice none 0 0], .agg #[.slice s.A s.n s.c, .slice s.Am s.nm s.cm], .agg d.X, .agg #[.bool true, .int .i64 ru, .string key], .int .i64 ti] W (JK (evE d ti key cwd) W))
 ∧Calls Tryz.prog 28 #[.agg #[.slice s.A s.n s.c, .slice s.Am s.nm s.cm],flV d.p.cd d.p.ci] W (WhP cwd (decide (0 < cwd.size)) W)
theorem EvW.later {w w' :World} {d:ExD} {s:Sy} {cwd:ByteArray} (h:EvW w d s cwd) (hb:Below w.heap.size w w'):EvW w' d s cwd:=fun W hW=>h W (aa hb hW)
theorem CB {w:World} {lo b:Nat} {d:ExD} (hd:d.Ok w lo) {s:Sy} (hs:SyO w b s) (hc:Calls10 w):∃ cwd:ByteArray,cwd.size≤586∧EvW w d s cwd:=by
 obtain ⟨ds,ms,ps,ho⟩:=hs;obtain ⟨cwd,ok,⟨h1,h2⟩,h3⟩:=rJ ds s.A s.n s.c ho.few.2.2 ms s.Am s.nm s.cm ho.few.1 (by have:=ho.few.2.1;omega) ho.so d.p.cd d.p.ci;refine ⟨cwd,h1,fun W hW=>?_⟩;have hd' :eD W b s ds ms ps:=ho.below hW;refine ⟨fun ti key ru=>?_,?_⟩
 · have hoi:=hd.oi.below hW;obtain ⟨A3,c3,e3,hi3⟩:=Ho.items (show Ho W lo (.slice d.I d.nI d.cI) d.is from hoi);injection e3 with e3 e3n _;obtain ⟨A4,c4,e4,hs4⟩:=(mM (hd.og.below hW)).at;injection e4 with e4 _ _;have hfw:d.is.length≤1000:=(by have h5:=hd.hi.1;have h6:=kz d.z;have h7:=mW d.z;omega);have hv:=KR (mkE d ti) ⟨rfl,e3n,by show d.nI≤1000;omega,fun t w _ _=>zQ (.slice none 0 0) (exX d.a d.ex d.p) (exR d.z d.p d.o ⟨d.P,d.ps.length,d.cp⟩ ⟨d.G,d.gs.length,d.cg⟩) d.I d.nI d.cI (d.is.map (·.1)) t w⟩ key true ru d.gs rfl (by have:=hd.hg.1;omega) s.A s.n s.c s.Am s.nm s.cm cwd W ⟨AtE.nil,Nat.zero_le _,fun x h=>by cases h⟩ (by show bX W W.heap.size d.I d.is;rw [e3];exact hi3) (by show AtE pg W W.heap.size d.G d.gs;rw [e4];exact hs4) (hc.below hW (Nat.le_refl _))
    (fun V hV=>((h3 V (hd'.below hV).files (hd'.below hV).aR).1).mono (by rintro e w' ⟨k1,k2⟩;exact ⟨⟨ok,k1⟩,k2⟩))
   rw [JR] at hv;exact hv
 · rw [← h2];exact (h3 W hd'.files hd'.aR).2
theorem CE (d:ExD) (ti:Int) (key cwd:ByteArray) (h:d.is.length≤2):(evE d ti key cwd).length≤1000:=by
 unfold evE yC;simp only [List.length_append,List.length_map,List.length_mapIdx];have h2:(mkE d ti).is.length≤2:=h;split <;> split <;> split <;> simp only [List.length_cons,List.length_nil] <;> omega
theorem wH {α:Type} (p:α→Bool) (a b c:List α) (ha:∀ x∈a,p x=false) (hb:∀ x∈b,p x=true) (hc:∀ x∈c,p x=false):
   ∀ k (hk:k < (a ++ b ++ c).length),p ((a ++ b ++ c)[k]'hk)=true→∃ (j:Nat) (hj:j < b.length),((a ++ b ++ c).take k).countP p=j∧(a ++ b ++ c)[k]'hk=b[j]'hj:=by
 intro k hk hp;have ca:a.countP p=0:=List.countP_eq_zero.2 fun x hx=>by rw [ha x hx];decide
 by_cases h1:k < a.length
 · exfalso;rw [List.getElem_append_left (by rw [List.length_append];omega),List.getElem_append_left h1,ha _ (List.getElem_mem h1)] at hp;cases hp
 by_cases h2:k < a.length+b.length
 · have h3:k < (a ++ b).length:=(by rw [List.length_append];exact h2);refine ⟨k - a.length,by omega,?_,?_⟩
   · rw [List.take_append_of_le_length (by omega),List.take_append,List.countP_append,List.take_of_length_le (show a.length≤k by omega),ca,Nat.zero_add];have:(b.take (k - a.length)).countP p=(b.take (k - a.length)).length:=List.countP_eq_length.2 fun x hx=>hb x (List.mem_of_mem_take hx);rw [this,List.length_take];omega
   · rw [List.getElem_append_left h3,List.getElem_append_right (by omega)]
 · exfalso;rw [List.getElem_append_right (by rw [List.length_append];omega),hc _ (List.getElem_mem _)] at hp;cases hp
theorem CF {α:Type} (p:α→Bool) (a b c:List α) (ha:∀ x∈a,p x=false) (hb:∀ x∈b,p x=true) (hc:∀ x∈c,p x=false):(a ++ b ++ c).countP p=b.length:=by
 rw [List.countP_append,List.countP_append,List.countP_eq_zero.2 (fun x hx=>by rw [ha x hx];decide),List.countP_eq_length.2 hb,List.countP_eq_zero.2 (fun x hx=>by rw [hc x hx];decide)];omega
theorem qP {α:Type} (p:α→Bool) (l:List α) {k:Nat} (hk:k < l.length):(l.take (k+1)).countP p=(l.take k).countP p+if p (l[k]'hk)=true then 1 else 0:=by
 rw [List.take_add_one,List.getElem?_eq_getElem hk,List.countP_append];simp
def qE (L:List Rc) (t:Int) (k:Nat):Nat:=(L.take k).countP fun r=>r.ty == t
theorem CG (L:List Rc) (t:Int):qE L t 0=0:=rfl
theorem Gs {L:List Rc} {t:Int} {k:Nat} (hk:k < L.length) (h:(L[k]'hk).ty=t):qE L t (k+1)=qE L t k+1:=by
 unfold qE;rw [qP _ _ hk,if_pos (by simp [h])]
theorem JS {L:List Rc} {t:Int} {k:Nat} (hk:k < L.length) (h:(L[k]'hk).ty≠t):qE L t (k+1)=qE L t k:=by
 unfold qE;rw [qP _ _ hk,if_neg (by simp [h])];rfl
theorem zR {L:List Rc} {t:Int} {k:Nat} (h:L.length≤k):qE L t k=L.countP fun r=>r.ty == t:=by
 unfold qE;rw [List.take_of_length_le h]
theorem CJ {α β γ:Type} (f:β→γ) (h:Nat→α→β) (l:List α):(l.mapIdx h).map f=l.mapIdx (fun i a=>f (h i a)):=by
 apply List.ext_getElem
 · simp
 · intro i h1 h2;simp
section
variable (d:ExD) (ti:Int) (key cwd:ByteArray)
def Dc:List Rc:=(⟨1300,ti,0,qK (mkE d ti) key⟩ :: (if d.z=1 then [⟨1309,ti,0,yA d.gs⟩] else [])) ++ (if d.z=19∧d.gs.length=1 then [⟨1306,ti,0,BU (mkE d ti) (d.gs.headD ⟨#[]⟩)⟩] else [])
def yU:List Rc:=if d.is.length=0 then [] else [⟨1307,ti,0,yB cwd⟩]
def CK:List Rc:=d.is.mapIdx fun i p=>⟨1302,ti,0,wS i p.1 p.2⟩
theorem wI:evE d ti key cwd=Dc d ti key ++ yU d ti cwd ++ CK d ti ++ [⟨1320,ti,0, []⟩]:=by
 unfold evE yC Dc yU CK;have hz:(mkE d ti).r.n=d.z:=rfl;have hi:(mkE d ti).is=d.is:=rfl;rw [hz,hi];simp only [List.map_append,List.map_cons,List.map_nil,CJ];congr 1;congr 1
 · congr 1
   · congr 1
     · split <;> rfl
     · split <;> rfl
   · split <;> rfl
theorem wJ:∀ x∈Dc d ti key,x.ty=1300∨x.ty=1309∨x.ty=1306:=by
 intro x hx;unfold Dc at hx;simp only [List.mem_append,List.mem_cons] at hx;rcases hx with (rfl | hx) | hx
 · exact .inl rfl
 · split at hx
   · rw [List.mem_singleton.1 hx];exact .inr (.inl rfl)
   · cases hx
 · split at hx
   · rw [List.mem_singleton.1 hx];exact .inr (.inr rfl)
   · cases hx
theorem wK:∀ x∈yU d ti cwd,x.ty=1307:=by
 intro x hx;unfold yU at hx;split at hx
 · cases hx
 · rw [List.mem_singleton.1 hx]
theorem wL:∀ x∈CK d ti,x.ty=1302:=by
 intro x hx;unfold CK at hx;obtain ⟨i,hi,e⟩:=List.mem_mapIdx.1 hx;rw [← e]
theorem lY:evE d ti key cwd=Dc d ti key ++ yU d ti cwd ++ (CK d ti ++ [⟨1320,ti,0, []⟩]):=by rw [wI,List.append_assoc _ (CK d ti)]
theorem CL {k:Nat} (hk:k < (evE d ti key cwd).length) (h:((evE d ti key cwd)[k]'hk).ty=1307):((evE d ti key cwd)[k]'hk).ps=yB cwd:=by
 have he:=lY d ti key cwd;generalize evE d ti key cwd=L at *;subst he;obtain ⟨j,hj,h1,h2⟩:=wH (fun r:Rc=>r.ty == 1307) (Dc d ti key) (yU d ti cwd) (CK d ti ++ [⟨1320,ti,0, []⟩])
   (fun x hx=>by rcases wJ d ti key x hx with e | e | e <;> rw [e] <;> rfl)
   (fun x hx=>by rw [wK d ti cwd x hx];rfl)
   (fun x hx=>by
    rcases List.mem_append.1 hx with hx | hx
    · rw [wL d ti x hx];rfl
    · rw [List.mem_singleton.1 hx];rfl) k hk (by rw [h];rfl)
 rw [h2];have hm:=List.getElem_mem hj;generalize (yU d ti cwd)[j]=x at hm;unfold yU at hm;split at hm
 · cases hm
 · rw [List.mem_singleton.1 hm]
theorem qQ:qE (evE d ti key cwd) 1307 (evE d ti key cwd).length=if d.is.length=0 then 0 else 1:=by
 rw [zR (Nat.le_refl _),lY,CF]
 · unfold yU;split <;> rfl
 · intro x hx;rcases wJ d ti key x hx with e | e | e <;> rw [e] <;> rfl
 · intro x hx;rw [wK d ti cwd x hx];rfl
 · intro x hx;rcases List.mem_append.1 hx with hx | hx
   · rw [wL d ti x hx];rfl
   · rw [List.mem_singleton.1 hx];rfl
end
theorem zS (s t:ByteArray):(txP s t).nm=s:=by unfold txP;split <;> rfl
theorem zT (s t:ByteArray):(soP s t).nm=s:=by unfold soP;split;rfl;exact zS s t
def Gt:List ByteArray→ByteArray→Option Nat
 | [],_=>none
 | n :: r,s=>if (n.toList == s.toList)=true then some 0 else (Gt r s).map (· +1)
theorem qR:∀ (ps:List Pr) (s:ByteArray),nA ps s=(Gt (ps.map (·.nm)) s).bind (ps[·]?)
 | [],_=>rfl
 | p :: r,s=>by
  show (if (p.nm.toList == s.toList)=true then some p else nA r s)=(if (p.nm.toList == s.toList)=true then some 0 else (Gt (r.map (·.nm)) s).map (· +1)).bind ((p :: r)[·]?);split
  · rfl
  · rw [qR r s];cases Gt (r.map (·.nm)) s with
    | none=>rfl
    | some j=>simp
theorem CO {ps:List Pr} {s:ByteArray} {N:List ByteArray} {j:Nat} (hN:ps.map (·.nm)=N) (hj:Gt N s=some j):nA ps s=ps[j]? :=by
 rw [qR,hN,hj];rfl
theorem CP (s:ByteArray):nA (yB s) ⟨#[99,119,100]⟩=some (soP ⟨#[99,119,100]⟩ s):=by
 show (if ((soP ⟨#[99,119,100]⟩ s).nm.toList == _)=true then _ else _)=_;rw [zT,if_pos (by decide+kernel)]
end Go.Proofs.YtollifnnpihfdaaGreatDoor
