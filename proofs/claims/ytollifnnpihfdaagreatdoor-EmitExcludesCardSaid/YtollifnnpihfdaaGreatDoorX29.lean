import Derived.Test.YtollifnnpihfdaaGreatDoorX14
import Derived.Test.YtollifnnpihfdaaGreatDoorX13
import Derived.RangeFuncNested
import Derived.RangeFuncBound
import Derived.Shelf.RegionOpen
import Derived.OwnWalkIn
import Derived.LoopNIn
import Derived.LoopIn
import Derived.StillTailTactics
import Derived.Lib.TrailingZeros
set_option maxRecDepth 100000
set_option maxHeartbeats 64000000
set_option linter.all false
namespace Go.Proofs.YtollifnnpihfdaaGreatDoor
open Go.RowKit
abbrev Kr:Array Value:=aV 0 0 0 ⟨#[]⟩ 0
structure T0 (w wr:World) (base g:Nat) (b:Int):Prop where
 only:w.grownBy wr (some g)
 src:aW wr base g b
 rb:Blk wr w.heap.size 85 Kr
 h3:g < w.heap.size
 h4:base≤w.heap.size
section
variable {w wr w' :World} {base g gc:Nat} {b b' :Int} {fd op nu:Int} {tx:ByteArray} {ot:Int}
end
open Go.ChangeShapes Go.WideShapes Go.RowKit
theorem ig (a:Addr) (n:Nat):(a.add n).block=a.block:=by unfold Addr.add;split <;> rfl
abbrev Aq (t:Tst):Array Value:=aV t.fd t.op t.nu t.tx t.ot
theorem CB (t:Tst):(Aq t).all (·.oneCell')=true:=by simp [Aq,Value.oneCell']
def eO (w:World) (B:Nat) (A:Option Addr) (ts:List Tst):Prop:=∀ k (hk:k < ts.length),∃ ad:Addr,A=some ad∧ad.block < B∧∀ j,j < 5→w.cell? ((ad.add (k * 5)).add j)=(Aq (ts[k]'hk))[j]?
theorem eO.keep {w w' :World} {B B' :Nat} {A:Option Addr} {ts:List Tst} (h:eO w B A ts) (hb:Below B' w w') (hB:B≤B'):eO w' B A ts:=fun k hk=>by
 obtain ⟨ad,e,hl,hc⟩:=h k hk;exact ⟨ad,e,hl,fun j hj=>(hb.cell (by rw [ig,ig];omega)).trans (hc j hj)⟩
theorem eO.more {w:World} {B B' :Nat} {A:Option Addr} {ts:List Tst} (h:eO w B A ts) (hB:B≤B'):eO w B' A ts:=fun k hk=>by
 obtain ⟨ad,e,hl,hc⟩:=h k hk;exact ⟨ad,e,by omega,hc⟩
theorem Tryz.Ku:(Tryz.prog.info? 85).map (fun i=>(i.zero,i.size,i.bytes))=some (some (.agg (aV 0 0 0 ⟨#[]⟩ 0)),5,48):=by kernel_rfl
abbrev pM (r:Rul) (v:Value):Array Value:=#[.int .i64 r.li, .int .i64 r.ac, .int .u64 (r.ca:Int),v, .int .i64 r.wa, .string r.pa, .int .i64 r.pe, .string r.ke]
abbrev CE (r:Rul) (v:Value):Value:= .agg (pM r v)
abbrev xC (w:World) (g:Nat) (r:Rul) (v:Value):Prop:=Blk w g 90 (pM r v)
theorem Ar (r:Rul) (v:Value):(Tryz.prog.info? 90).map (·.size)=some (pM r v).size:=by show _=some 8;kernel_rfl
section
variable {w:World} {g:Nat} {r:Rul} {v:Value}
theorem xC.c2 (h:xC w g r v):w.cell? ⟨g,2,none⟩=some (.int .u64 (r.ca:Int)):=h.cell 2
theorem xC.c3 (h:xC w g r v):w.cell? ⟨g,3,none⟩=some v:=h.cell 3
theorem xC.c4 (h:xC w g r v):w.cell? ⟨g,4,none⟩=some (.int .i64 r.wa):=h.cell 4
end
structure Mid (lo hi:Nat) (A B:World):Prop where
 low:Below lo A B
 high:∀ b,hi≤b→b < A.heap.size→B.heap[b]? =A.heap[b]?
theorem jd {lo l:Nat} (A:World) (o:Obj) (h:lo≤l) (hl:l < A.heap.size):Below lo A (A.putObj l o):=
 (Below.refl lo A).grown (grownBy_putObj' A l o) (by omega) (fun k e=>by cases e;exact h)
variable {F:Fence} {n:Nat} {P:Program}
end Go.Proofs.YtollifnnpihfdaaGreatDoor
namespace Go.Proofs.YtollifnnpihfdaaGreatDoor
open Go.RowKit
abbrev noT:Value:= .slice none 0 0
section
variable {w wr w' :World} {g n c k k' :Nat} {A:Option Addr} {ws:List ByteArray} {b b' :Bool} {r r' :Rul}
end
structure MkR (r:Rul):Prop where
 ca:r.ca < 18446744073709551616
 pa:r.pa.size≤10
 ke:r.ke.size≤10
 ts:∀ t∈r.ts,(-13≤t.nu∧t.nu≤4294967295)∧t.tx.size≤5
section
variable {w wr w' :World} {base g gc:Nat} {b b' :Int} {r r' :Rul} {tv:Value}
end
def nuP (s:ByteArray) (n:Int):Pr:=⟨s,1,n,⟨#[]⟩⟩
def txP (s t:ByteArray):Pr:=if 640 < t.size then ⟨s,3,0,⟨#[]⟩⟩ else ⟨s,2,0,t⟩
def soP (s t:ByteArray):Pr:=if t.size=0 then ⟨s,3,0,⟨#[]⟩⟩ else txP s t
theorem yU {s t:ByteArray} (h:640 < t.size):txP s t=⟨s,3,0,⟨#[]⟩⟩:=if_pos h
theorem wm {s t:ByteArray} (h:¬ 640 < t.size):txP s t=⟨s,2,0,t⟩:=if_neg h
theorem nN {t:ByteArray} (h:¬ t.size=0):t.toList.isEmpty=false:=by
 cases hq:t.toList.isEmpty with
 | false=>rfl
 | true=>
  have e:=congrArg List.length (List.isEmpty_iff.1 hq);rw [ByteArray.toList_eq,Array.length_toList] at e;exact absurd e h
theorem Kv (s:ByteArray) (n:Int) (w:World):Calls Tryz.prog 48 #[.string s, .int .i64 n] w fun e w' =>e= .returned (prV (nuP s n))∧Below w.heap.size w w' :=eD s n w
theorem jL (s t:ByteArray) (w:World):Calls Tryz.prog 47 #[.string s, .string t] w fun e w' =>e= .returned (prV (txP s t))∧Below w.heap.size w w' :=by
 by_cases h:640 < t.size
 · rw [yU h];have h1:(640:Int) < (t.size:Int):=(by omega);go_in;go_wp2_with fail;refine bodyPost_ret (kF (fn:=Tryz.f47) rfl _ _ w.heap.size ⟨s,3,0,⟨#[]⟩⟩ rfl (Blk.new w _ _)) rfl ?_;exact ⟨rfl,(Below.refl _ _).alloc (Nat.le_refl _) _⟩
 · rw [wm h];exact Fq s t (by omega) w
theorem pg (s t:ByteArray) (w:World):Calls Tryz.prog 50 #[.string s, .string t] w fun e w' =>e= .returned (prV (soP s t))∧Below w.heap.size w w' :=by
 unfold soP;by_cases h:t.size=0
 · obtain rfl:t=⟨#[]⟩:=by
    cases t with | mk d=>cases d with | mk l=>cases l with | nil=>rfl | cons a l=>simp [ByteArray.size] at h
   exact Fs s w
 · rw [if_neg h];have h1:=nN h;go_in;go_wp2_with fail;refine (jL s t _).mono ?_;rintro e w1 ⟨rfl,hb1⟩;have HX:=Blk.below (Blk.new w #[.string ⟨#[]⟩, .int .i64 0, .int .i64 0, .string ⟨#[]⟩] 79) hb1;go_wp2_with ((with_reducible refine ae ?_ 79 (.tmp 4) (.tmp 11) ?_ HX (prA (txP s t)) ?_ ?_ ?_ ?_ ?_ ?_);(iterate 4 rfl);(exact JO _);rfl;(exact Fp _));refine bodyPost_ret (kF (fn:=Tryz.f50) rfl _ _ w.heap.size (txP s t) rfl (Blk.row HX _)) rfl ?_;exact ⟨rfl,ai (aa ((Below.refl _ _).alloc (Nat.le_refl _) _) (by exact hb1)) (Nat.le_refl _) _⟩
theorem sw {w:World} {g:Nat} {t:TypeId} {cs:Array Value} (h:Blk w g t cs):Blk w.drew g t cs:=h
theorem xD (a:Addr) (w:World):(loadVar 3 a).run Tryz.prog w=(load a).run Tryz.prog w:=by
 unfold loadVar;simp [go_sem]
theorem xE (a:Addr) (w:World):(loadVar 9 a).run Tryz.prog w=(load a).run Tryz.prog w:=by
 unfold loadVar;simp [go_sem]
theorem je {w:World} {g:Nat} {c:Ctx} {r:bN} {it:Value} (h:bU w g c r it):(loadVar 54 ⟨g,0,none⟩).run Tryz.prog w= .ok (.agg (bE c r it)) w:=run_loadVar_row w g _ _ _ _ _ h Tryz.underlying54 rfl (jK _ _ _)
theorem Au {w:World} {g:Nat} {i:Itm} {r:bB} (h:gJ w g i r):(loadVar 73 ⟨g,0,none⟩).run Tryz.prog w= .ok (.agg (aO i r)) w:=run_loadVar_row w g _ _ _ _ _ h Tryz.underlying73 rfl (iH _ _)
attribute [local irreducible] bE aO jQ IJ IK fK
attribute [-go_sem] loadVar
attribute [local go_sem] xD xE
end Go.Proofs.YtollifnnpihfdaaGreatDoor
namespace Go.Proofs.YtollifnnpihfdaaGreatDoor
open Go.RowKit
abbrev pcC (c:Ctx) (r:bN):Array Value:=#[.int .i64 (c.p 0), .int .i64 (c.p 1), .int .i64 (c.p 2), .int .i64 (c.p 3), .int .i64 (c.p 4), .int .i64 (c.p 5), .int .i64 (c.p 6), .int .i64 (c.p 7), .int .i64 r.d, .int .i64 r.i, .string c.comm, .string c.exe,r.o.v, .bool r.u]
abbrev zpC:Array Value:=#[.int .i64 0, .int .i64 0, .int .i64 0, .int .i64 0, .int .i64 0, .int .i64 0, .int .i64 0, .int .i64 0, .int .i64 0, .int .i64 0, .string ⟨#[]⟩, .string ⟨#[]⟩, .slice none 0 0, .bool false]
theorem CU (c:Ctx) (r:bN) (it:Value) (j:Nat) (u:Value) (h:(pcC c r).toList[j]? =some u):(bE c r it)[1+j]? =some u:=by
 have hl:(bE c r it).toList= [.int .i64 c.ph] ++ ((pcC c r).toList ++ [.int .i64 r.n, .int .i64 (c.a 0), .int .i64 (c.a 1), .int .i64 (c.a 2), .int .i64 (c.a 3),r.ps.v,r.gs.v, .int .i64 c.ex,it, .int .i64 c.ty]):=rfl;rw [← Array.getElem?_toList,hl,List.getElem?_append_right (by simp)];have hj:=(List.getElem?_eq_some_iff.1 h).1;rw [List.getElem?_append_left (by simpa using hj)];simpa using h
theorem CV (c:Ctx) (r:bN):(Tryz.prog.info? 47).map (·.size)=some (pcC c r).size:=by show _=some 14;kernel_rfl
theorem AA (c:Ctx) (r:bN):zpC.size=(pcC c r).size:=rfl
theorem AB (c:Ctx) (r:bN):(pcC c r).all (·.oneCell')=true:=by simp [Value.oneCell']
theorem CW {w:World} {g:Nat} {c:Ctx} {r:bN} {it:Value} (h:Blk w g 54 (bE c r it)):(loadVar 47 ⟨g,1,none⟩).run Tryz.prog w= .ok (.agg (pcC c r)) w:=
 oF (fun j u hu=>by rw [IE,h.cell];exact CU c r it j u hu) Tryz.underlying47 rfl (CV c r)
attribute [local irreducible] bE
attribute [-go_sem] loadVar
attribute [local go_sem] lv3
end Go.Proofs.YtollifnnpihfdaaGreatDoor
namespace Go.Proofs.YtollifnnpihfdaaGreatDoor
open Go.RowKit
def Ma {α:Type} (F:Fence) (n:Nat) (P:Program) (g:Nat) (lb:Array Value) (enc:α→Value) (G:α→Prop) (lo hi:Nat) (R:World→World→Prop) (S Sp:List α→Prop) (N:Nat) (w:World):Prop:=
 ∀ (l:Nat) (J Jx:List α→World→Prop) (W:World),Below w.heap.size w W→(∀ pre A B,J pre A→Mid lo hi A B→J pre B)→(∀ pre A B,Jx pre A→Mid lo hi A B→Jx pre B)→
  (∀ pre x A,G x→J pre A→pre.length < N→YieldAt F (n - 1) P l #[enc x] A fun e B=>
   (e= .returned (.bool true)∧J (pre ++ [x]) B∧R A B)∨(e= .returned (.bool false)∧Jx (pre ++ [x]) B))→
  J [] W→
  CallsIn F n P g (#[.func (.yield l) #[] #[]] ++ lb) W fun e B=>(∃ v,e= .returned v)∧((∃ xs,S xs∧J xs B)∨(∃ pre,Sp pre∧Jx pre B))
variable {F:Fence} {n:Nat} {P:Program}
end Go.Proofs.YtollifnnpihfdaaGreatDoor
namespace Go.Proofs.YtollifnnpihfdaaGreatDoor
open Go.RowKit
section
variable {F:Fence} {n:Nat} {P:Program} {Q:Exit→Act→World→Prop} {a:Act} {w:World} {b:Frame} {k:List Item} {cs:List Frame}
theorem dL {c:Code} :step P (lone (b.atR a (.code (.scope c) :: k)) cs w)= .next (lone (b.atR a (.code c :: .inScope c :: k)) cs w):=
 step_lone_go (by simp [stepG,stepG.exec,Frame.atR])
theorem lF {c:Code} :step P (lone (b.atR a (.inScope c :: k)) cs w)= .next (lone (b.atR a k) cs w):=
 step_lone_go (by simp [stepG,stepG.exec,Frame.atR])
theorem jM (id:Nat) (c:Code) (k:List Item):exitTo id (.inScope c :: k)=exitTo id k:=by simp [exitTo]
theorem iK {c:Code} (h:c.wpIn F n P (Exit.noGoto Q) a w):(Code.scope c).wpIn F n P Q a w:=by
 intro b k cs hro hb hr;have h0:(lone (b.atR a (.code (.scope c) :: k)) cs w).fenced P F:=fenced_calm hb hr rfl;obtain ⟨e,a₁,w₁,hq,harr⟩:=h b (.inScope c :: k) cs hro hb hr;cases e with
 | normal=>exact ⟨.normal,a₁,w₁,hq, .head h0 dL (StepsIn.trans harr (.one (fenced_calm hb hr rfl) lF))⟩
 | exit id=>exact ⟨.exit id,a₁,w₁,hq, .of_steps (.one h0 dL) ⟨fun k' hk=>harr.1 k' (by rw [jM];exact hk),fun hr hk=>harr.2 hr (by rw [jM];exact hk)⟩⟩
 | goto l=>exact hq.elim
 | ret=>exact ⟨_,a₁,w₁,hq, .of_steps (.one h0 dL) harr⟩
 | panic ch=>exact ⟨_,a₁,w₁,hq, .of_steps (.one h0 dL) harr⟩
 | outgrown=>exact ⟨_,a₁,w₁,hq, .of_steps (.one h0 dL) harr⟩
end
theorem nR {l n:Nat} {P:Program} {ops:Array Oper} {Q:Exit→Act→World→Prop} (hlo:¬ LetsOut Q) (hd:∀ (i:Nat) (o:Oper) c,ops[i]? =some o→o.op≠ .defer c):
  ∀ (L:List Nat) (a:Act) (w:World),wpOps P ops Q L a w→wpOpsIn (Fence.wide.inRound l) n P ops Q L a w:=by
 intro L;induction L with
 | nil=>exact fun a w h=>h
 | cons i rest ih=>
  intro a w h;simp only [wpOps] at h;simp only [wpOpsIn];cases ho:ops[i]? with
  | none=>rw [ho] at h;exact ih a w h
  | some o=>
   rw [ho] at h;by_cases hw:Region.wanted o (yielded ops a.tmps)=true
   · simp only [hw,if_true] at h ⊢;rcases h with h | ⟨_,h⟩
     · refine ⟨fun _ _=>trivial,?_⟩;rw [Oper.semAt_eq _ _ _ (fun c=>hd i o c ho)];unfold Oper.wp at h;revert h;generalize (execOp a.eval o).run P w=r;intro h;unfold Oper.upon at h;unfold Oper.uponIn;split at h
       · exact ih _ _ h
       · exact ih _ _ h
       · exact ih _ _ h
       · refine ⟨fun h=>by simp [Fence.wide] at h,?_⟩;refine CallsIn.inRound l (callsIn_wide.2 (h.mono ?_));intro e w' hr;cases e with
         | returned v=>exact ih _ _ hr
         | panicked ch=>exact hr
         | outgrown=>exact hr
       · refine ⟨fun h=>by simp [Fence.wide] at h,?_⟩;intro c cs _;obtain ⟨v,w',hr,hs⟩:=h c cs;exact ⟨v,w',ih _ _ hr,stepsIn_wide.2 hs⟩
       · exact h
       · exact h.elim
     · exact absurd h hlo
   · simp only [hw,if_false,Bool.false_eq_true] at h ⊢;exact ⟨fun _ _=>trivial,ih _ _ h⟩
def rH (o:Oper):Bool:=match o.op with | .defer _=>false | _=>true
theorem jg {l n:Nat} {P:Program} {id:Nat} {ops:Array Oper} {Q:Exit→Act→World→Prop} {a:Act} {w:World} (S:World→Prop) (hlo:¬ LetsOut Q) (hd:ops.toList.all rH=true) (hm:P.follows .mixedOrders=true) (hS:S w.drew)
  (h:S w.drew→wpAnyH P .any ops Q S ops.size (Array.replicate ops.size false) a w.drew):(Code.region id ops true).wpIn (Fence.wide.inRound l) n P Q a w:=
 wpIn_region_draw fun t=>by
  simp only [Region.schedule,hm,Bool.true_or,if_true];refine nR hlo (fun i o c ho e=>?_) _ _ _ (wpAny_sound ops.size t _ a _ (wpAny_of_held _ _ _ _ (h hS)));have h1:=List.all_eq_true.1 hd o (by rw [Array.getElem?_eq_some_iff] at ho;obtain ⟨h1,rfl⟩:=ho;exact Array.mem_toList_iff.2 (Array.getElem_mem h1));unfold rH at h1;rw [e] at h1;cases h1
end Go.Proofs.YtollifnnpihfdaaGreatDoor
