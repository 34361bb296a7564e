import Derived.Test.YtollifnnpihfdaaGreatDoorT48
import Derived.Test.YtollifnnpihfdaaGreatDoorT42
import Derived.Test.YtollifnnpihfdaaGreatDoorT46
set_option maxRecDepth 100000
set_option maxHeartbeats 64000000
set_option linter.all false
namespace Go.Proofs.YtollifnnpihfdaaGreatDoor
open Go.RowKit
theorem o6 (ds:List Dm) (A:Option Addr) (n c:Nat) (hn:n=ds.length) (ms:List Mt) (Am:Option Addr) (nm cm:Nat) (hnm:nm=ms.length) (hl:nm≤1000) {dev ino:Int}
  (hno:(bJ (ds.map Dm.dv) dev ino && fe ms dev)=false) (w:World) (hf:bW w w.heap.size A ds) (hm:AtE EMt w w.heap.size Am ms):
  Calls Tryz.prog 49 #[.agg #[slV A n c,slV Am nm cm],flV dev ino] w (WhP ⟨#[]⟩ false w):=by
 obtain ⟨H,hH⟩:∃ H,w.heap.size=H:=⟨_,rfl⟩;obtain ⟨w0,hw0⟩:∃ w0,w0=(((w.alloc (.cells #[slV A n c,slV Am nm cm] 31)).alloc (.cells #[.int .i64 dev, .int .i64 ino] 44)).alloc (.cells #[.string ⟨#[]⟩] 9)).alloc (.cells #[.bool false] 4):=⟨_,rfl⟩;have B0:Below H w w0:=by rw [hw0, ← hH];exact ((((Below.refl _ _).alloc (Nat.le_refl _) _).alloc (by simp) _).alloc (by simp;omega) _).alloc (by simp;omega) _
 have hs0:w0.heap.size=H+4:=by rw [hw0, ← hH];simp
 have V0:Blk w0 H 31 #[slV A n c,slV Am nm cm]:=by rw [hw0, ← hH];exact (((Blk.new w _ _).alloc _).alloc _).alloc _
 have U0:Blk w0 (H+1) 44 #[.int .i64 dev, .int .i64 ino]:=by
  have:=Blk.new (w.alloc (.cells #[slV A n c,slV Am nm cm] 31)) #[.int .i64 dev, .int .i64 ino] 44;simp only [World.size_alloc,hH] at this;rw [hw0];exact (this.alloc _).alloc _
 have R1:Blk w0 (H+2) 9 #[.string ⟨#[]⟩]:=by
  have:=Blk.new ((w.alloc (.cells #[slV A n c,slV Am nm cm] 31)).alloc (.cells #[.int .i64 dev, .int .i64 ino] 44)) #[.string ⟨#[]⟩] 9;simp only [World.size_alloc,hH] at this;rw [hw0];exact this.alloc _
 have R2:Blk w0 (H+3) 4 #[.bool false]:=by
  have:=Blk.new (((w.alloc (.cells #[slV A n c,slV Am nm cm] 31)).alloc (.cells #[.int .i64 dev, .int .i64 ino] 44)).alloc (.cells #[.string ⟨#[]⟩] 9)) #[.bool false] 4;simp only [World.size_alloc,hH] at this;rw [hw0];exact this
 have F0:=hf.keep B0 (by omega);have M0:=hm.keep B0 (by omega);have HN:=Hd hn;have HNM:=Hd hnm;have HNO:=Hd hno;clear hn hnm hno;refine (callsIn_wide (n:=20)).1 ?_;refine callsIn_of_wp_marks Tryz.func49 rfl trivial ?_ rfl;simp only [Tryz.ntmps49,List.size_toArray,List.length_cons,List.length_nil,Nat.reduceAdd,Nat.reduceSub,Array.replicate_succ,Array.replicate_zero,List.push_toArray,List.append_toArray,List.nil_append,List.cons_append]
 gi_wp2_with fail
 rw [← hw0];clear hw0;refine ⟨trivial,(callsIn_wide.2 (Ac dev ino ds A n c HN.o (slV Am nm cm) w0 (F0.more (by omega)))).mono ?_⟩;rintro en w1 ⟨rfl,hb1⟩;have V1:=V0.below hb1;have U1:=U0.below hb1;have R11:=R1.below hb1;have R21:=R2.below hb1;have F1:=F0.keep hb1 (by omega);have M1:=M0.keep hb1 (by omega);have B1:Below H w w1:=B0.trans (hb1.mono (by omega));have hs1:H+4≤w1.heap.size:=by have:=hb1.size;omega
 clear hb1 V0 U0 R1 R2 F0 M0 B0 hs0 w0;have u0:=U1.cell 0;have v0:=V1.cell 0;have v1:=V1.cell 1;cases hd:bJ (ds.map Dm.dv) dev ino with
 | false=>
  have r0:=R11.cell 0;have g0:=R11.free 0;have r2:=R21.cell 0;have g2:=R21.free 0
  gi_wp2_with fail
  refine ⟨trivial,?_⟩
  gi_wp2_with fail
  have q1:Blk ((w1.setCell ⟨H+1+1,0,none⟩ (.string ⟨#[]⟩)).setCell ⟨H+1+1+1,0,none⟩ (.bool false)) (H+1+1) 9 #[.string ⟨#[]⟩]:=(R11.put 0 _).af _ (by show H+1+1≠H+1+1+1;omega);have q2:Blk ((w1.setCell ⟨H+1+1,0,none⟩ (.string ⟨#[]⟩)).setCell ⟨H+1+1+1,0,none⟩ (.bool false)) (H+1+1+1) 4 #[.bool false]:=(R21.af (p:=⟨H+1+1,0,none⟩) _ (by show H+3≠H+1+1;omega)).put 0 _;have d1:=q1.cell 0;have d2:=q2.cell 0;refine ⟨.tuple #[.string ⟨#[]⟩, .bool false],by simp [results,Tryz.results49,go_sem,d1,d2],rfl,?_⟩;rw [hH];exact (B1.setCell (p:=⟨H+1+1,0,none⟩) (by show H≤H+1+1;omega) _).setCell (p:=⟨H+1+1+1,0,none⟩) (by show H≤H+1+1+1;omega) _
 | true=>
  have hmt:fe ms dev=false:=by have h:=HNO.o;rw [hd,Bool.true_and] at h;exact h
  gi_wp2_with fail
  clear u0 v0 v1;refine ⟨trivial,(callsIn_wide.2 (Gt dev (slV A n c) ms Am nm cm HNM.o hl w1 (M1.more (by omega)))).mono ?_⟩;rw [hmt];rintro en w2 ⟨rfl,hb1⟩;have R12:=R11.below hb1;have R22:=R21.below hb1;have B2:Below H w w2:=B1.trans (hb1.mono (by omega));clear hb1 V1 U1 R11 R21 F1 M1 B1;have r0:=R12.cell 0;have g0:=R12.free 0;have r2:=R22.cell 0;have g2:=R22.free 0
  gi_wp2_with fail
  have q1:Blk ((w2.setCell ⟨H+1+1,0,none⟩ (.string ⟨#[]⟩)).setCell ⟨H+1+1+1,0,none⟩ (.bool false)) (H+1+1) 9 #[.string ⟨#[]⟩]:=(R12.put 0 _).af _ (by show H+1+1≠H+1+1+1;omega);have q2:Blk ((w2.setCell ⟨H+1+1,0,none⟩ (.string ⟨#[]⟩)).setCell ⟨H+1+1+1,0,none⟩ (.bool false)) (H+1+1+1) 4 #[.bool false]:=(R22.af (p:=⟨H+1+1,0,none⟩) _ (by show H+3≠H+1+1;omega)).put 0 _;have d1:=q1.cell 0;have d2:=q2.cell 0;refine ⟨.tuple #[.string ⟨#[]⟩, .bool false],by simp [results,Tryz.results49,go_sem,d1,d2],rfl,?_⟩;rw [hH];exact (B2.setCell (p:=⟨H+1+1,0,none⟩) (by show H≤H+1+1;omega) _).setCell (p:=⟨H+1+1+1,0,none⟩) (by show H≤H+1+1+1;omega) _
theorem zg {f:List Dv} (h:FOk f):xg f≤1000:=by
 have:∀ l:List Dv,(∀ d∈l,d.ns.length≤16)→(l.map (fun d=>d.ns.length)).sum≤16 * l.length:=by
  intro l;induction l with
  | nil=>intro _;simp
  | cons a l ih=>
   intro hl;have h1:=ih (fun d hd=>hl d (List.mem_cons_of_mem _ hd));have h2:=hl a (List.mem_cons_self ..);simp only [List.map_cons,List.sum_cons,List.length_cons];omega
 have h1:=this f (fun d hd=>(h.2.2 d hd).few);have h2:=h.2.1;unfold xg;omega
theorem iA:∀ (L:List ByteArray) (d:ByteArray),0 < d.size→0 < (L.foldl eO d).size
 | [],_,h=>h
 | a :: L,d,h=>iA L (eO d a) (by unfold eO;split <;> simp only [ByteArray.size_append] <;> omega)
theorem rV (ds:List Dm) (A:Option Addr) (n c:Nat) (hn:n=ds.length) (ms:List Mt) (Am:Option Addr) (nm cm:Nat) (hnm:nm=ms.length) (hl:nm≤1000) (hok:SOk (ds.map Dm.dv) ms) (dev ino:Int):
   ∃ (s:ByteArray) (b:Bool),(s.size≤586∧b=decide (0 < s.size))∧∀ w:World,bW w w.heap.size A ds→AtE EMt w w.heap.size Am ms→
    Calls Tryz.prog 49 #[.agg #[slV A n c,slV Am nm cm],flV dev ino] w (WhP s b w)∧Calls Tryz.prog 28 #[.agg #[slV A n c,slV Am nm cm],flV dev ino] w (WhP s b w):=by
 by_cases h:(bJ (ds.map Dm.dv) dev ino && fe ms dev)=true
 · have h0:=Bool.and_eq_true .. ▸ h;obtain ⟨L,k,h1,h2,h3⟩:=hok.DT h0.2 h0.1;exact ⟨iD L,true,⟨jw (h1.names hok.1) h2,(decide_eq_true (iA L _ (by decide))).symm⟩,fun w hf hm=>⟨wO ds A n c hn ms Am nm cm hnm hl hok.1 h1 h3 (Nat.le_trans h3 (zg hok.1)) h0.1 h0.2 w hf hm,nY ds A n c hn ms Am nm cm hnm hl hok.1 hok.2.zero h1 h2 w hf hm⟩⟩
 · have h0:(bJ (ds.map Dm.dv) dev ino && fe ms dev)=false:=(by simpa using h);exact ⟨⟨#[]⟩,false,⟨by decide,by decide⟩,fun w hf hm=>⟨o6 ds A n c hn ms Am nm cm hnm hl h0 w hf hm,nX dev ino ds A n c hn ms Am nm cm hnm hl w hf hm h0⟩⟩
theorem CL (v:Value) (w:World):Calls Tryz.prog 220 #[.slice none 0 0,v] w fun e w' =>e= .returned (.int .i64 (-1))∧Below w.heap.size w w' :=by
 go_in;go_wp2_with fail;go_loopw [9] (fun i wr=>i= .int .i64 0∧Below w.heap.size w wr) (fun _ _=>0);case atStart=>exact ⟨rfl,Below.refl _ _⟩
 case round=>
  obtain ⟨rfl,hb⟩:=hrel;go_wp2_with fail;go_ret;exact ⟨rfl,hb⟩
attribute [-go_sem] loadVar
attribute [local go_sem] BV BZ FM FN FO
attribute [local irreducible] gB
theorem CO (li:Int) (cx:Ctx) (cr:eD) (Ai:Option Addr) (ni ci:Nat) (w:World):Calls Tryz.prog 157 #[.slice none 0 0, .int .i64 li, .slice none 0 0,KC cx cr (.slice Ai ni ci)] w fun e w' =>e= .returned (.int .i64 (-1))∧Below w.heap.size w w' :=by
 have s1:(w.alloc (.cells #[.int .i64 li] 3)).heap.size=w.heap.size+1:=by simp
 have s2:((w.alloc (.cells #[.int .i64 li] 3)).alloc (.cells #[.slice none 0 0] 203)).heap.size=w.heap.size+1+1:=by simp
 have B0:=Hd (show Below w.heap.size w (((w.alloc (.cells #[.int .i64 li] 3)).alloc (.cells #[.slice none 0 0] 203)).alloc (.cells (gB cx cr (.slice Ai ni ci)) 54)) from (((Below.refl w.heap.size w).alloc (Nat.le_refl _) _).alloc (by rw [s1];omega) _).alloc (by rw [s2];omega) _);clear s1 s2;go_in;go_upto_region 1 with fail;generalize ((w.alloc (.cells #[.int .i64 li] 3)).alloc (.cells #[.slice none 0 0] 203)).alloc (.cells (gB cx cr (.slice Ai ni ci)) 54)=W at *;go_wp2_with fail;refine (CL _ W).mono ?_;rintro e w1 ⟨rfl,hb⟩;have B1:=Hd (aa B0.o hb);clear hb;go_wp2_with fail;go_ret;exact ⟨rfl,B1.o⟩
theorem Ad (v2:Value) (cx:Ctx) (cr:eD) (Ai:Option Addr) (ni ci:Nat) (L:List Itm) (t:Int) (w:World):
  Calls Tryz.prog 94 #[.agg #[.slice none 0 0,v2],KC cx cr (.slice Ai ni ci), .int .i64 t] w fun e w' =>e= .returned (.bool (pU [] cx cr.n L t))∧Below w.heap.size w w' :=by
 have HE:=Hd (show pU [] cx cr.n L t=false by unfold pU;cases zU t <;> rfl)
 rw [HE.o];have B0:=Hd (show Below w.heap.size w ((w.alloc (.cells #[.slice none 0 0,v2] 41)).alloc (.cells (gB cx cr (.slice Ai ni ci)) 54)) from ((Below.refl w.heap.size w).alloc (Nat.le_refl _) _).alloc (by simp) _);have V0:=Hd ((Blk.new w #[.slice none 0 0,v2] 41).alloc (.cells (gB cx cr (.slice Ai ni ci)) 54));have C0:=Hd (show ig ((w.alloc (.cells #[.slice none 0 0,v2] 41)).alloc (.cells (gB cx cr (.slice Ai ni ci)) 54)) (w.heap.size+1) cx cr (.slice Ai ni ci) by
  have h:=Blk.new (w.alloc (.cells #[.slice none 0 0,v2] 41)) (gB cx cr (.slice Ai ni ci)) 54;simpa using h)
 cases ht:zU t with
 | false=>
  obtain ⟨n1,n2,n3,n4,n5,n6⟩:=FP ht;clear ht;go_in;go_wp2_with fail;go_ret;exact ⟨rfl,B0.o⟩
 | true=>
  go_in;go_upto_region 1 with fail;generalize (w.alloc (.cells #[.slice none 0 0,v2] 41)).alloc (.cells (gB cx cr (.slice Ai ni ci)) 54)=W at *;have h6:=Cg ht;clear ht;have c24:=C0.o.ty;have f24:=C0.o.free 24;have C1:=Hd (show ig (W.setCell ⟨w.heap.size+1,24,none⟩ (.int .i64 t)) (w.heap.size+1) { cx with ty:=t } cr (.slice Ai ni ci) by have h:=C0.o.put 24 (.int .i64 t);rw [yJ] at h;exact h);have V1:=Hd (V0.o.af (.int .i64 t) (show w.heap.size≠(⟨w.heap.size+1,24,none⟩:Addr).block by simp));have B1:=Hd (B0.o.setCell (p:=⟨w.heap.size+1,24,none⟩) (by simp) (.int .i64 t));have hl:=zV C1.o;have v0:=V1.o.cell 0;have vv0:=V0.o.cell 0;rcases h6 with rfl | rfl | rfl | rfl | rfl | rfl;all_goals
   go_wp2_with fail;clear hl v0 vv0 c24 f24;refine (CO 5 _ cr Ai ni ci _).mono ?_;rintro e W2 ⟨rfl,hb⟩;have B2:=Hd (aa B1.o hb);clear hb;go_wp2_with fail;go_ret;exact ⟨rfl,B2.o⟩
end Go.Proofs.YtollifnnpihfdaaGreatDoor
namespace Go.Proofs.YtollifnnpihfdaaGreatDoor
open Go.RowKit
def mkE (d:ExD) (ti:Int):Mk:=⟨none,0,0, .slice none 0 0,exX d.a d.ex d.p,exR d.z d.p d.o ⟨d.P,d.ps.length,d.cp⟩ ⟨d.G,d.gs.length,d.cg⟩,d.I,d.nI,d.cI,ti, [],d.is⟩
theorem Gx (d:ExD) (ti t:Int):(mkE d ti).ex t=false:=by
 show pU [] _ _ _ t=false;unfold pU;cases zU t <;> rfl
theorem mg {m:Mk} (h:∀ t,m.ex t=false):∀ (l:List (Int×List Pr)) (L:List Rc),dn m L l=L ++ l.map (fun x=>⟨x.1,m.ti,0,x.2⟩)
 | [],L=>by simp [dn]
 | x :: l,L=>by
  show dn m (jR m L x.1 x.2) l=_;rw [mg h l];unfold jR;rw [if_neg (by rw [h];decide)];simp
def evE (d:ExD) (ti:Int) (key cwd:ByteArray):List Rc:=(yM (mkE d ti) key d.gs cwd).map (fun x=>⟨x.1,ti,0,x.2⟩) ++ [⟨1320,ti,0, []⟩]
theorem JY (d:ExD) (ti:Int) (key cwd:ByteArray):evR (mkE d ti) key d.gs cwd=evE d ti key cwd:=by
 unfold evR evE;rw [mg (Gx d ti)];simp only [List.nil_append];rw [if_neg (by simp [yM])];rfl
def EvW (w:World) (d:ExD) (s:Sy) (cwd:ByteArray):Prop:=∀ W,Below w.heap.size w W→
 (∀ (ti:Int) (key:ByteArray) (ru:Int),Calls Tryz.prog 17 #[.agg #[.slice none 0 0, .slice none 0 0], .agg #[.slice s.A s.n s.c, .slice s.Am s.nm s.cm], .agg d.X, .agg #[.bool true, .int .i64 ru, .string key], .int .i64 ti] W (JQ (evE d ti key cwd) W))
 ∧Calls Tryz.prog 28 #[.agg #[.slice s.A s.n s.c, .slice s.Am s.nm s.cm],flV d.p.cd d.p.ci] W (WhP cwd (decide (0 < cwd.size)) W)
theorem EvW.later {w w' :World} {d:ExD} {s:Sy} {cwd:ByteArray} (h:EvW w d s cwd) (hb:Below w.heap.size w w'):EvW w' d s cwd:=fun W hW=>h W (aa hb hW)
theorem CP {w:World} {lo b:Nat} {d:ExD} (hd:d.Ok w lo) {s:Sy} (hs:SyO w b s) (hc:Calls10 w):∃ cwd:ByteArray,cwd.size≤586∧EvW w d s cwd:=by
 obtain ⟨ds,ms,ps,ho⟩:=hs;obtain ⟨cwd,ok,⟨h1,h2⟩,h3⟩:=rV ds s.A s.n s.c ho.few.2.2 ms s.Am s.nm s.cm ho.few.1 (by have:=ho.few.2.1;omega) ho.so d.p.cd d.p.ci;refine ⟨cwd,h1,fun W hW=>?_⟩;have hd' :eQ W b s ds ms ps:=ho.below hW;refine ⟨fun ti key ru=>?_,?_⟩
 · have hoi:=hd.oi.below hW;obtain ⟨A3,c3,e3,hi3⟩:=Hw.items (show Hw W lo (.slice d.I d.nI d.cI) d.is from hoi);injection e3 with e3 e3n _;obtain ⟨A4,c4,e4,hs4⟩:=(mR (hd.og.below hW)).at;injection e4 with e4 _ _;have hfw:d.is.length≤1000:=(by have h5:=hd.hi.1;have h6:=kI d.z;have h7:=nk d.z;omega);have hv:=KW (mkE d ti) ⟨rfl,e3n,by show d.nI≤1000;omega,fun t w _ _=>Ad (.slice none 0 0) (exX d.a d.ex d.p) (exR d.z d.p d.o ⟨d.P,d.ps.length,d.cp⟩ ⟨d.G,d.gs.length,d.cg⟩) d.I d.nI d.cI (d.is.map (·.1)) t w⟩ key true ru d.gs rfl (by have:=hd.hg.1;omega) s.A s.n s.c s.Am s.nm s.cm cwd W ⟨AtE.nil,Nat.zero_le _,fun x h=>by cases h⟩ (by show bY W W.heap.size d.I d.is;rw [e3];exact hi3) (by show AtE pK W W.heap.size d.G d.gs;rw [e4];exact hs4) (hc.below hW (Nat.le_refl _))
    (fun V hV=>((h3 V (hd'.below hV).files (hd'.below hV).aS).1).mono (by rintro e w' ⟨k1,k2⟩;exact ⟨⟨ok,k1⟩,k2⟩))
   rw [JY] at hv;exact hv
 · rw [← h2];exact (h3 W hd'.files hd'.aS).2
theorem CQ (d:ExD) (ti:Int) (key cwd:ByteArray) (h:d.is.length≤2):(evE d ti key cwd).length≤1000:=by
 unfold evE yM;simp only [List.length_append,List.length_map,List.length_mapIdx];have h2:(mkE d ti).is.length≤2:=h;split <;> split <;> split <;> simp only [List.length_cons,List.length_nil] <;> omega
theorem wP {α:Type} (p:α→Bool) (a b c:List α) (ha:∀ x∈a,p x=false) (hb:∀ x∈b,p x=true) (hc:∀ x∈c,p x=false):
   ∀ k (hk:k < (a ++ b ++ c).length),p ((a ++ b ++ c)[k]'hk)=true→∃ (j:Nat) (hj:j < b.length),((a ++ b ++ c).take k).countP p=j∧(a ++ b ++ c)[k]'hk=b[j]'hj:=by
 intro k hk hp;have ca:a.countP p=0:=List.countP_eq_zero.2 fun x hx=>by rw [ha x hx];decide
 by_cases h1:k < a.length
 · exfalso;rw [List.getElem_append_left (by rw [List.length_append];omega),List.getElem_append_left h1,ha _ (List.getElem_mem h1)] at hp;cases hp
 by_cases h2:k < a.length+b.length
 · have h3:k < (a ++ b).length:=(by rw [List.length_append];exact h2);refine ⟨k - a.length,by omega,?_,?_⟩
   · rw [List.take_append_of_le_length (by omega),List.take_append,List.countP_append,List.take_of_length_le (show a.length≤k by omega),ca,Nat.zero_add];have:(b.take (k - a.length)).countP p=(b.take (k - a.length)).length:=List.countP_eq_length.2 fun x hx=>hb x (List.mem_of_mem_take hx);rw [this,List.length_take];omega
   · rw [List.getElem_append_left h3,List.getElem_append_right (by omega)]
 · exfalso;rw [List.getElem_append_right (by rw [List.length_append];omega),hc _ (List.getElem_mem _)] at hp;cases hp
theorem CR {α:Type} (p:α→Bool) (a b c:List α) (ha:∀ x∈a,p x=false) (hb:∀ x∈b,p x=true) (hc:∀ x∈c,p x=false):(a ++ b ++ c).countP p=b.length:=by
 rw [List.countP_append,List.countP_append,List.countP_eq_zero.2 (fun x hx=>by rw [ha x hx];decide),List.countP_eq_length.2 hb,List.countP_eq_zero.2 (fun x hx=>by rw [hc x hx];decide)];omega
theorem qZ {α:Type} (p:α→Bool) (l:List α) {k:Nat} (hk:k < l.length):(l.take (k+1)).countP p=(l.take k).countP p+if p (l[k]'hk)=true then 1 else 0:=by
 rw [List.take_add_one,List.getElem?_eq_getElem hk,List.countP_append];simp
def qE (L:List Rc) (t:Int) (k:Nat):Nat:=(L.take k).countP fun r=>r.ty == t
theorem CS (L:List Rc) (t:Int):qE L t 0=0:=rfl
theorem Gy {L:List Rc} {t:Int} {k:Nat} (hk:k < L.length) (h:(L[k]'hk).ty=t):qE L t (k+1)=qE L t k+1:=by
 unfold qE;rw [qZ _ _ hk,if_pos (by simp [h])]
theorem JZ {L:List Rc} {t:Int} {k:Nat} (hk:k < L.length) (h:(L[k]'hk).ty≠t):qE L t (k+1)=qE L t k:=by
 unfold qE;rw [qZ _ _ hk,if_neg (by simp [h])];rfl
theorem Gz {L:List Rc} {t:Int} {k:Nat} (h:L.length≤k):qE L t k=L.countP fun r=>r.ty == t:=by
 unfold qE;rw [List.take_of_length_le h]
theorem CU {α β γ:Type} (f:β→γ) (h:Nat→α→β) (l:List α):(l.mapIdx h).map f=l.mapIdx (fun i a=>f (h i a)):=by
 apply List.ext_getElem
 · simp
 · intro i h1 h2;simp
section
variable (d:ExD) (ti:Int) (key cwd:ByteArray)
def CV:List Rc:=(⟨1300,ti,0,jS (mkE d ti) key⟩ :: (if d.z=1 then [⟨1309,ti,0,yL d.gs⟩] else [])) ++ (if d.z=19∧d.gs.length=1 then [⟨1306,ti,0,Ci (mkE d ti) (d.gs.headD ⟨#[]⟩)⟩] else [])
def Dk:List Rc:=if d.is.length=0 then [] else [⟨1307,ti,0,Cj cwd⟩]
def sw:List Rc:=d.is.mapIdx fun i p=>⟨1302,ti,0,oQ i p.1 p.2⟩
theorem je:evE d ti key cwd=CV d ti key ++ Dk d ti cwd ++ sw d ti ++ [⟨1320,ti,0, []⟩]:=by
 unfold evE yM CV Dk sw;have hz:(mkE d ti).r.n=d.z:=rfl;have hi:(mkE d ti).is=d.is:=rfl;rw [hz,hi];simp only [List.map_append,List.map_cons,List.map_nil,CU];congr 1;congr 1
 · congr 1
   · congr 1
     · split <;> rfl
     · split <;> rfl
   · split <;> rfl
theorem wQ:∀ x∈CV d ti key,x.ty=1300∨x.ty=1309∨x.ty=1306:=by
 intro x hx;unfold CV at hx;simp only [List.mem_append,List.mem_cons] at hx;rcases hx with (rfl | hx) | hx
 · exact .inl rfl
 · split at hx
   · rw [List.mem_singleton.1 hx];exact .inr (.inl rfl)
   · cases hx
 · split at hx
   · rw [List.mem_singleton.1 hx];exact .inr (.inr rfl)
   · cases hx
theorem wR:∀ x∈Dk d ti cwd,x.ty=1307:=by
 intro x hx;unfold Dk at hx;split at hx
 · cases hx
 · rw [List.mem_singleton.1 hx]
theorem wS:∀ x∈sw d ti,x.ty=1302:=by
 intro x hx;unfold sw at hx;obtain ⟨i,hi,e⟩:=List.mem_mapIdx.1 hx;rw [← e]
theorem zi:(sw d ti).length=d.is.length:=by unfold sw;simp
theorem zk {j:Nat} (hj:j < (sw d ti).length) (hj2:j < d.is.length):(sw d ti)[j]'hj=⟨1302,ti,0,oQ j (d.is[j]'hj2).1 (d.is[j]'hj2).2⟩:=by
 simp only [sw,List.getElem_mapIdx]
theorem zl {k:Nat} (hk:k < (evE d ti key cwd).length) (h:((evE d ti key cwd)[k]'hk).ty=1302):
  ∃ hj:qE (evE d ti key cwd) 1302 k < d.is.length,((evE d ti key cwd)[k]'hk).ps=oQ (qE (evE d ti key cwd) 1302 k) (d.is[qE (evE d ti key cwd) 1302 k]'hj).1 (d.is[qE (evE d ti key cwd) 1302 k]'hj).2:=by
 have he:=je d ti key cwd;generalize evE d ti key cwd=L at *;subst he;obtain ⟨j,hj,h1,h2⟩:=wP (fun r:Rc=>r.ty == 1302) (CV d ti key ++ Dk d ti cwd) (sw d ti) [⟨1320,ti,0, []⟩]
  (fun x hx=>by
   rcases List.mem_append.1 hx with hx | hx
   · rcases wQ d ti key x hx with e | e | e <;> rw [e] <;> rfl
   · rw [wR d ti cwd x hx];rfl)
  (fun x hx=>by rw [wS d ti x hx];rfl) (fun x hx=>by rw [List.mem_singleton.1 hx];rfl) k hk (by rw [h];rfl)
 have h3:qE (CV d ti key ++ Dk d ti cwd ++ sw d ti ++ [⟨1320,ti,0, []⟩]) 1302 k=j:=h1;have hj2:j < d.is.length:=by have:=hj;rw [zi] at this;exact this
 subst h3;refine ⟨hj2,?_⟩;rw [h2,zk d ti hj hj2]
theorem wT:qE (evE d ti key cwd) 1302 (evE d ti key cwd).length=d.is.length:=by
 rw [Gz (Nat.le_refl _),je,CR]
 · unfold sw;simp
 · intro x hx;rcases List.mem_append.1 hx with hx | hx
   · rcases wQ d ti key x hx with e | e | e <;> rw [e] <;> rfl
   · rw [wR d ti cwd x hx];rfl
 · intro x hx;rw [wS d ti x hx];rfl
 · intro x hx;rw [List.mem_singleton.1 hx];rfl
theorem wU:∃ r,evE d ti key cwd=⟨1300,ti,0,jS (mkE d ti) key⟩ :: r:=by
 rw [je];unfold CV;exact ⟨_,rfl⟩
theorem zm:∃ r,evE d ti key cwd=r ++ [⟨1320,ti,0, []⟩]:=⟨_,je d ti key cwd⟩
end
theorem wV (s t:ByteArray):(txP s t).nm=s:=by unfold txP;split <;> rfl
theorem Af (s t:ByteArray):(soP s t).nm=s:=by unfold soP;split;rfl;exact wV s t
theorem Ah (s:ByteArray) (n:Int):(nuP s n).nm=s:=rfl
theorem GA {s t:ByteArray} (h:t.size≤640):(soP s t).tx=t:=by
 unfold soP;split
 · rename_i h0;exact (show (⟨#[]⟩:ByteArray)=t by cases t with | mk a=>exact congrArg _ (Array.eq_empty_of_size_eq_zero h0).symm)
 · rw [kL (by omega)]
theorem GD {s t:ByteArray} (h:t.size≤640):(txP s t).tx=t:=by rw [kL (by omega)]
def qb:List ByteArray→ByteArray→Option Nat
 | [],_=>none
 | n :: r,s=>if (n.toList == s.toList)=true then some 0 else (qb r s).map (· +1)
theorem rq:∀ (ps:List Pr) (s:ByteArray),kr ps s=(qb (ps.map (·.nm)) s).bind (ps[·]?)
 | [],_=>rfl
 | p :: r,s=>by
  show (if (p.nm.toList == s.toList)=true then some p else kr r s)=(if (p.nm.toList == s.toList)=true then some 0 else (qb (r.map (·.nm)) s).map (· +1)).bind ((p :: r)[·]?);split
  · rfl
  · rw [rq r s];cases qb (r.map (·.nm)) s with
    | none=>rfl
    | some j=>simp
theorem dC {ps:List Pr} {s:ByteArray} {N:List ByteArray} {j:Nat} (hN:ps.map (·.nm)=N) (hj:qb N s=some j):kr ps s=ps[j]? :=by
 rw [rq,hN,hj];rfl
def wW:List ByteArray:= [⟨#[99,97,108,108]⟩,⟨#[115,117,99,99,101,115,115]⟩,⟨#[101,120,105,116]⟩,⟨#[97,48]⟩,⟨#[97,49]⟩,⟨#[97,50]⟩,⟨#[97,51]⟩,⟨#[105,116,101,109,115]⟩,⟨#[112,112,105,100]⟩,⟨#[112,105,100]⟩,⟨#[97,117,105,100]⟩,⟨#[117,105,100]⟩,⟨#[103,105,100]⟩,⟨#[101,117,105,100]⟩,⟨#[101,103,105,100]⟩,⟨#[115,101,115]⟩,⟨#[99,111,109,109]⟩,⟨#[101,120,101]⟩,⟨#[107,101,121]⟩]
theorem dw (m:Mk) (key:ByteArray):(jS m key).map (·.nm)=wW:=by
 simp only [jS,List.map_cons,List.map_nil,wV,Af,Ah];rfl
theorem ry (i:Nat) (y:Itm) (r:bB):(oQ i y r).map (·.nm)= [⟨#[105,116,101,109]⟩,⟨#[110,97,109,101]⟩,⟨#[112,97,116,104]⟩,⟨#[100,101,118]⟩,⟨#[105,110,111,100,101]⟩,⟨#[109,111,100,101]⟩,⟨#[111,117,105,100]⟩,⟨#[111,103,105,100]⟩,⟨#[107,105,110,100]⟩,⟨#[114,111,108,101]⟩,⟨#[112,101,114,109]⟩]:=by
 simp only [oQ,List.map_cons,List.map_nil,wV,Af,Ah]
theorem zo (i:Nat) (y:Itm) (r:bB):kr (oQ i y r) ⟨#[112,97,116,104]⟩=some (soP ⟨#[112,97,116,104]⟩ r.pa):=by
 rw [dC (ry i y r) (j:=2) (by decide+kernel)];rfl
theorem wX (i:Nat) (y:Itm) (r:bB):kr (oQ i y r) ⟨#[105,110,111,100,101]⟩=some (nuP ⟨#[105,110,111,100,101]⟩ y.ino):=by
 rw [dC (ry i y r) (j:=4) (by decide+kernel)];rfl
theorem zq (m:Mk) (key:ByteArray):kr (jS m key) ⟨#[99,97,108,108]⟩=some (txP ⟨#[99,97,108,108]⟩ (bZ m.r.n).name):=by
 rw [dC (dw m key) (j:=0) (by decide+kernel)];rfl
def tlN:List ByteArray:= [⟨#[101,120,105,116]⟩,⟨#[112,105,100]⟩,⟨#[112,112,105,100]⟩,⟨#[97,117,105,100]⟩,⟨#[117,105,100]⟩,⟨#[103,105,100]⟩,⟨#[101,117,105,100]⟩,⟨#[101,103,105,100]⟩,⟨#[115,101,115]⟩,⟨#[105,116,101,109,115]⟩]
def tlV (d:ExD):List Int:= [d.ex,d.p.pid,d.p.pp,d.p.au,d.p.ui,d.p.gi,d.p.eu,d.p.eg,d.p.se,(d.is.length:Int)]
theorem CW (d:ExD) (ti:Int) (key:ByteArray):∀ (k:Nat) (h:k < 10),kr (jS (mkE d ti) key) (tlN[k]'h)=some (nuP (tlN[k]'h) ((tlV d)[k]'h))
 | 0,_=>(dC (dw (mkE d ti) key) (show qb wW (tlN[0]'(by decide))=some 2 by decide+kernel)).trans rfl
 | 1,_=>(dC (dw (mkE d ti) key) (show qb wW (tlN[1]'(by decide))=some 9 by decide+kernel)).trans rfl
 | 2,_=>(dC (dw (mkE d ti) key) (show qb wW (tlN[2]'(by decide))=some 8 by decide+kernel)).trans rfl
 | 3,_=>(dC (dw (mkE d ti) key) (show qb wW (tlN[3]'(by decide))=some 10 by decide+kernel)).trans rfl
 | 4,_=>(dC (dw (mkE d ti) key) (show qb wW (tlN[4]'(by decide))=some 11 by decide+kernel)).trans rfl
 | 5,_=>(dC (dw (mkE d ti) key) (show qb wW (tlN[5]'(by decide))=some 12 by decide+kernel)).trans rfl
 | 6,_=>(dC (dw (mkE d ti) key) (show qb wW (tlN[6]'(by decide))=some 13 by decide+kernel)).trans rfl
 | 7,_=>(dC (dw (mkE d ti) key) (show qb wW (tlN[7]'(by decide))=some 14 by decide+kernel)).trans rfl
 | 8,_=>(dC (dw (mkE d ti) key) (show qb wW (tlN[8]'(by decide))=some 15 by decide+kernel)).trans rfl
 | 9,_=>(dC (dw (mkE d ti) key) (show qb wW (tlN[9]'(by decide))=some 7 by decide+kernel)).trans rfl
 | k+10,h=>absurd h (by omega)
abbrev cxL:Array Value:=#[.int .i64 2, .int .i64 0, .int .i64 0, .int .i64 0, .int .i64 0, .int .i64 0, .int .i64 0, .int .i64 0, .int .i64 0, .int .i64 0, .int .i64 0, .string ⟨#[]⟩, .string ⟨#[]⟩, .slice none 0 0, .bool false, .int .i64 3, .int .i64 0, .int .i64 0, .int .i64 0, .int .i64 0, .slice none 0 0, .slice none 0 0, .int .i64 0, .slice none 0 0, .int .i64 0]
theorem Aj:(Tryz.prog.info? 54).map (·.size)=some cxL.size:=by show _=some 25;kernel_rfl
def wY (w:World) (e:Ending) (w' :World):Prop:=∃ (A:Option Addr) (c:Nat) (x y:Rm),e= .returned (.slice A 2 c)∧AtE ER w' w'.heap.size A [x,y]∧x.r.ty=1300∧x.r.ti=5∧x.r.ps.length=19∧y.r.ty=1320∧Below w.heap.size w w'
def mkL:Mk:=⟨none,0,0, .slice none 0 0,⟨2,fun _=>0,fun _=>0,0,0,⟨#[]⟩,⟨#[]⟩⟩,⟨0,0,⟨none,0,0⟩,false,3,⟨none,0,0⟩,⟨none,0,0⟩⟩,none,0,0,5, [], []⟩
theorem J2:mkL.X=cxL:=rfl
theorem GG (key:ByteArray):evR mkL key [] ⟨#[]⟩= [⟨1300,5,0,jS mkL key⟩,⟨1320,5,0, []⟩]:=by
 have h1:dn mkL [] (yM mkL key [] ⟨#[]⟩)= [⟨1300,5,0,jS mkL key⟩]:=by
  have h2:yM mkL key [] ⟨#[]⟩= [(1300,jS mkL key)]:=rfl;rw [h2];show jR mkL [] 1300 (jS mkL key)=_;unfold jR;rw [if_neg (by decide)];rfl
 unfold evR;simp only [h1];rfl
theorem zt (W:World) (B:Nat):bW W B none []:=⟨AtE.nil,Nat.zero_le _,fun d h=>(List.not_mem_nil h).elim,fun d h=>(List.not_mem_nil h).elim⟩
theorem CX (w:World) (hc:Calls10 w):Calls Tryz.prog 17 #[.agg #[.slice none 0 0, .slice none 0 0], .agg #[.slice none 0 0, .slice none 0 0], .agg cxL, .agg #[.bool true, .int .i64 0, .string ⟨#[107]⟩], .int .i64 5] w (wY w):=by
 have hv:=KW mkL ⟨rfl,rfl,Nat.zero_le _,fun t w _ _=>Ad (.slice none 0 0) mkL.cx mkL.r none 0 0 [] t w⟩ ⟨#[107]⟩ true 0 [] rfl (Nat.zero_le _) none 0 0 none 0 0 ⟨#[]⟩ w ⟨AtE.nil,Nat.zero_le _,fun x h=>by cases h⟩ bY.nil AtE.nil hc (fun W hW=>by
  refine (o6 [] none 0 0 rfl [] none 0 0 rfl (Nat.zero_le _) (dev:=0) (ino:=0) rfl W (zt W _) AtE.nil).mono ?_;rintro e w' ⟨h1,h2⟩;exact ⟨⟨false,h1⟩,h2⟩)
 rw [J2] at hv;refine hv.mono ?_;rintro e w' ⟨A,n,c,he,hn,⟨xs,hx,ho,hp⟩,hb⟩;rw [GG] at hn hx;obtain ⟨x,ys,rfl,hx1,h2⟩:=List.map_eq_cons_iff.1 hx;obtain ⟨y,zs,rfl,hy,h3⟩:=List.map_eq_cons_iff.1 h2;obtain rfl:=List.map_eq_nil_iff.1 h3;have hx:x.r=⟨1300,5,0,jS mkL ⟨#[107]⟩⟩:=hx1;have hy:y.r=⟨1320,5,0, []⟩:=hy;obtain ⟨A',c',e',ha⟩:=ho.at;refine ⟨A,c,x,y,by rw [he,hn];rfl,?_,by rw [hx],by rw [hx],by rw [hx];rfl,by rw [hy],hb⟩;injection e' with e' _ _;rw [e'];exact ha
abbrev zxL:Array Value:=#[.int .i64 0, .int .i64 0, .int .i64 0, .int .i64 0, .int .i64 0, .int .i64 0, .int .i64 0, .int .i64 0, .int .i64 0, .int .i64 0, .int .i64 0, .string ⟨#[]⟩, .string ⟨#[]⟩, .slice none 0 0, .bool false, .int .i64 0, .int .i64 0, .int .i64 0, .int .i64 0, .int .i64 0, .slice none 0 0, .slice none 0 0, .int .i64 0, .slice none 0 0, .int .i64 0]
abbrev awW (w:World):World:=(w.alloc (.cells zxL 54)).setRow w.heap.size cxL
abbrev c47:Array Value:=#[.int .i64 3, .int .i64 0, .int .i64 0, .int .i64 0, .int .i64 0, .slice none 0 0, .slice none 0 0, .int .i64 0, .slice none 0 0, .int .i64 0]
theorem CY (w:World) (hc:Calls10 w):Calls Tryz.prog 19 #[] w fun e w' =>e= .returned (.bool true)∧Below w.heap.size w w' :=by
 have hb0:Below w.heap.size w (awW w):=aj ((Below.refl _ _).alloc (Nat.le_refl _) _) (Nat.le_refl _) _;have X1:=Hd (show Blk (awW w) w.heap.size 54 cxL from (Blk.new w zxL 54).row cxL);have HE:=Hd (CX (awW w) (hc.below hb0 (Nat.le_refl _)));have HB0:=Hd hb0;clear hb0 hc;go_in;go_wp2_with (first
  | (refine wpList_buildTo rfl 51 _ rfl (some 3) rfl c47 (by as_aux_lemma=>kernel_rfl) ?_)
  | (refine wpList_buildTo rfl 54 _ rfl (some 4) rfl cxL (by as_aux_lemma=>kernel_rfl) ?_)
  | (refine Great.wpList_allocTo rfl (some 1) rfl (.pointer (some ⟨w.heap.size,0,none⟩)) (.cells zxL 54) (by as_aux_lemma=>kernel_rfl) ?_)
  | (refine wpList_store_rowTo rfl 54 _ _ rfl rfl w.heap.size cxL rfl rfl 54 zxL (heap_alloc_new w _) Aj rfl (by as_aux_lemma=>kernel_rfl) ?_)
  | ((with_reducible refine aA ?_ 54 (.tmp 1) ?_ X1.o ?_ _ Tryz.underlying54 ?_ ?_ ?_);(iterate 4 rfl);exact Aj))
 refine HE.o.mono ?_;rintro e w1 ⟨A,c,x,y,rfl,hA,t1,t2,t3,t4,hb1⟩;obtain ⟨ad,rfl,_,h0⟩:=hA 0 (by simp);obtain ⟨ad',e',_,h1⟩:=hA 1 (by simp);injection e' with e';subst e';obtain ⟨q0,q1,_,q3⟩:=qD (a:=ad) (x:=x) h0;have h4:w1.cell? ⟨ad.block,ad.off+4,none⟩=some (.int .i64 y.r.ty):=h1 0 (by show 0 < 4;omega);rw [t1] at q0;rw [t2] at q1;rw [t3] at q3;rw [t4] at h4;have HB1:=Hd (aa HB0.o hb1);clear t1 t2 t3 t4 hb1 h0 h1 hA X1 HE;go_wp2_with fail;go_ret;exact ⟨rfl,HB1.o⟩
abbrev bxA (w:World):World:=((w.alloc (.cells dH 54)).alloc (.cells syZ 36)).alloc (.cells rsZ 57)
abbrev bxB (w:World) (d:ExD):World:=(bxA w).setRow w.heap.size d.X
abbrev bxC (w:World) (d:ExD):World:=(bxB w d).setRow (w.heap.size+1) (syC d.s)
abbrev bxD (w:World) (d:ExD):World:=(bxC w d).setRow (w.heap.size+2) d.R
theorem J3 (w:World) (d:ExD):Below w.heap.size w (bxD w d)∧Blk (bxA w) w.heap.size 54 dH∧Blk (bxB w d) (w.heap.size+1) 36 syZ∧Blk (bxC w d) (w.heap.size+2) 57 rsZ∧Blk (bxD w d) w.heap.size 54 d.X:=by
 have s1:(w.alloc (.cells dH 54)).heap.size=w.heap.size+1:=by simp
 have s2:((w.alloc (.cells dH 54)).alloc (.cells syZ 36)).heap.size=w.heap.size+2:=by simp
 have h1:=Blk.new (w.alloc (.cells dH 54)) syZ 36;have h2:=Blk.new ((w.alloc (.cells dH 54)).alloc (.cells syZ 36)) rsZ 57;rw [s1] at h1;rw [s2] at h2;have k0:Blk (bxA w) w.heap.size 54 dH:=((Blk.new w dH _).alloc _).alloc _;have k1:Blk (bxA w) (w.heap.size+1) 36 syZ:=h1.alloc _;have k2:Blk (bxA w) (w.heap.size+2) 57 rsZ:=h2;refine ⟨aj (aj (aj ((((Below.refl _ _).alloc (Nat.le_refl _) _).alloc (by rw [s1];omega) _).alloc (by rw [s2];omega) _) (Nat.le_refl _) _) (by omega) _) (by omega) _,k0,k1.ah _ (by omega),(k2.ah _ (by omega)).ah _ (by omega),?_⟩;exact ((k0.row d.X).ah _ (by omega)).ah _ (by omega)
structure LwF (w W:World) (gx gc:Nat) (s:Sy) (d:ExD) (cwd:ByteArray) (A:Option Addr) (xs:List Rm):Prop where
 b:Below w.heap.size w W
 xx:Blk W gx 36 (syC s)
 xc:Blk W gc 54 d.X
 ev:EvW W d s cwd
 re:AtE ER W W.heap.size A xs
 rp:∀ x∈xs,AtE EP W W.heap.size x.A x.r.ps
 it:AtE j6 W W.heap.size d.I d.is
 hi:d.nI=d.is.length
 ca:Calls10 W
theorem LwF.below {w W W' :World} {gx gc:Nat} {s:Sy} {d:ExD} {cwd:ByteArray} {A:Option Addr} {xs:List Rm} (h:LwF w W gx gc s d cwd A xs) (hb:Below W.heap.size W W'):LwF w W' gx gc s d cwd A xs:=
 ⟨aa h.b hb,h.xx.below hb,h.xc.below hb,h.ev.later hb,h.re.below hb,fun x hx=>(h.rp x hx).below hb,h.it.below hb,h.hi,h.ca.below hb (Nat.le_refl _)⟩
theorem LwF.alloc {w W:World} {gx gc:Nat} {s:Sy} {d:ExD} {cwd:ByteArray} {A:Option Addr} {xs:List Rm} (h:LwF w W gx gc s d cwd A xs) (o:Obj):LwF w (W.alloc o) gx gc s d cwd A xs:=h.below ((Below.refl _ _).alloc (Nat.le_refl _) o)
theorem LwF.Dl {w W:World} {gx gc:Nat} {s:Sy} {d:ExD} {cwd:ByteArray} {A:Option Addr} {xs:List Rm} (h:LwF w W gx gc s d cwd A xs) {k:Nat} (hk:k < xs.length):∃ ad:Addr,A=some ad∧(W.cell? (ad.add (k * 4))=some (.int .i64 (xs[k]'hk).r.ty)∧W.cell? ⟨(ad.add (k * 4)).block,(ad.add (k * 4)).off+1,none⟩=some (.int .i64 (xs[k]'hk).r.ti)∧W.cell? ⟨(ad.add (k * 4)).block,(ad.add (k * 4)).off+2,none⟩=some (.int .i64 (xs[k]'hk).r.se)∧W.cell? ⟨(ad.add (k * 4)).block,(ad.add (k * 4)).off+3,none⟩=some (.slice (xs[k]'hk).A (xs[k]'hk).r.ps.length (xs[k]'hk).c)):=by
 obtain ⟨ad,e,_,hc⟩:=h.re k hk;exact ⟨ad,e,qD hc⟩
theorem ExD.Ok.below {d:ExD} {w w' :World} {lo:Nat} (h:d.Ok w lo) (hb:Below w.heap.size w w'):d.Ok w' lo:=⟨h.hz,h.ha,h.hp,h.hg,h.og.below hb,h.oi.below hb,h.hi,h.os.below hb⟩
theorem zu {d:ExD} {w:World} {lo:Nat} (h:d.Ok w lo):d.is.length≤2:=by
 have h5:=h.hi.1;have h6:=kI d.z;have h7:=nk d.z;omega
end Go.Proofs.YtollifnnpihfdaaGreatDoor
