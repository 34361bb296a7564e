import Derived.Test.YtnpaoepkpdileaaGreatDoorF01
import Derived.WalkLawsBesides
import Derived.Test.YtnpaoepkpdileaaGreatDoorSh
import Derived.Lib.AppendIntMem
import Derived.Deep.RegionHeld3
import Derived.Deep.AppendLies
set_option maxRecDepth 100000
set_option maxHeartbeats 64000000
set_option linter.all false
namespace Go.Proofs.YtnpaoepkpdileaaGreatDoor
open Go.RowKit
theorem Cs (s:ByteArray) (w:World) (hs:s.size≤maxLen):
  Calls Tryz.prog 70 #[.string s] w fun e w' =>e= .returned (.bool (iO s.data.toList))∧w=w' :=by
 unfold maxLen at hs;go_in
 go_wp2
 go_loop [6] (fun i=>∃ k:Nat,k≤s.size∧i= .int .i64 k∧Hid (iO (s.data.toList.take k)=true)) (fun i=>s.size - (intOf i).toNat);case atStart=>exact ⟨0,Nat.zero_le _,rfl,rfl⟩
 case round=>
  obtain ⟨k,hk,rfl,kr⟩:=hrel;by_cases hlt:k < s.size
  · by_cases hc:okc s[k]=true
    · have H:=Hd (su s k hlt kr.o hc);obtain ⟨c1,c2,c3⟩:=nA hc;clear hc
      go_wp2
      go_round
      case rel=>exact ⟨k+1,by omega,by go_num,H⟩
      case measure=>simp [intOf];omega
    · have H:=Hd (sw s k hlt (by simpa using hc));have hc' :=Hd hc;clear hc
      go_wp2
      case roundEnd=>exact absurd (wE (by omega) (by omega) (by simp_all)) hc'.o
      all_goals
       go_ret;exact ⟨GH H.o.symm,rfl⟩
  · go_wp2
    go_ret;exact ⟨GH (by rw [← jS s k (by omega),kr.o]),rfl⟩
def qp:List ByteArray:= [⟨#[]⟩,⟨#[112,105,100]⟩,⟨#[112,112,105,100]⟩,⟨#[117,105,100]⟩,⟨#[101,117,105,100]⟩,⟨#[103,105,100]⟩,⟨#[101,103,105,100]⟩,⟨#[97,117,105,100]⟩,⟨#[115,101,115]⟩,⟨#[97,48]⟩,⟨#[97,49]⟩,⟨#[97,50]⟩,⟨#[97,51]⟩,⟨#[101,120,101]⟩,⟨#[99,111,109,109]⟩,⟨#[101,120,105,116]⟩,⟨#[115,117,99,99,101,115,115]⟩,⟨#[105,110,111,100,101]⟩,⟨#[100,101,118]⟩,⟨#[111,98,106,95,117,105,100]⟩,⟨#[111,98,106,95,103,105,100]⟩,⟨#[107,105,110,100]⟩,⟨#[116,121,112,101]⟩]
def dw (k:Nat):ByteArray:=qp.getD k ⟨#[]⟩
def opL:List ByteArray:= [⟨#[]⟩,⟨#[61]⟩,⟨#[33,61]⟩,⟨#[60]⟩,⟨#[60,61]⟩,⟨#[62]⟩,⟨#[62,61]⟩,⟨#[38]⟩,⟨#[38,61]⟩]
def opN (k:Nat):ByteArray:=opL.getD k ⟨#[]⟩
def uH (f:Int):Bool:=decide ((1≤f∧f≤8)∨f=13∨f=14)
def dK (l f:Int):Bool:=
 if l=1∨l=4 then uH f
 else if l=2 then decide (1≤f∧f≤14)
 else if l=3 then decide (1≤f∧f≤21)
 else if l=5 then uH f || decide (f=22)
 else false
def bD (f:Int):Bool:=decide (f=13∨f=14)
def dL (f:Int):Bool:=decide ((3≤f∧f≤7)∨f=19∨f=20)
def dx (f:Int):Bool:=decide (17≤f∧f≤21)
def aj (fd op nu:Int) (tx:ByteArray) (ot l:Int):Int:=
 if dK l fd=false then 120
 else if ot≠0∧(dK l ot=false∨dL fd=false∨dL ot=false) then 120
 else if op < 1∨8 < op then 121
 else if 2 < op∧(bD fd=true∨ot≠0) then 121
 else if ot≠0∧(nu≠0∨tx.size≠0) then 122
 else if bD fd=true∧(nu≠0∨tx.size=0∨640 < tx.size) then 122
 else if bD fd=false∧tx.size≠0 then 122
 else 0
theorem gz {l f:Int} (h:dK l f=true):1≤f∧f≤22:=by
 unfold dK uH at h;split at h
 · simp at h;omega
 · split at h
   · simp at h;omega
   · split at h
     · simp at h;omega
     · split at h
       · simp at h;omega
       · cases h
theorem iw {f:Int} (h:dL f=true):bD f=false:=by
 unfold dL at h;unfold bD;simp at *;omega
theorem iJ {fd op nu:Int} {tx:ByteArray} {ot l:Int} (h:aj fd op nu tx ot l=0):dK l fd=true∧(ot=0∨(dK l ot=true∧dL fd=true∧dL ot=true))∧(1≤op∧op≤8)∧(op≤2∨(bD fd=false∧ot=0))∧(ot=0∨(nu=0∧tx.size=0))∧(bD fd=false∨(nu=0∧tx.size≠0∧tx.size≤640))∧(bD fd=true∨tx.size=0):=by
 unfold aj at h;split at h
 · cases h
 · split at h
   · cases h
   · split at h
     · cases h
     · split at h
       · cases h
       · split at h
         · cases h
         · split at h
           · cases h
           · split at h
             · cases h
             · rename_i h1 h2 h3 h4 h5 h6 h7;cases hx:dK l fd <;> cases hy:bD fd <;> cases hz:dK l ot <;> cases hu:dL fd <;> cases hv:dL ot <;> by_cases hot:ot=0 <;> by_cases hnu:nu=0 <;> simp_all <;> omega
def lI:Array Value:=(qp.map Value.string).toArray
def lJ:Array Value:=(opL.map Value.string).toArray
def FNames (w:World):Prop:=jT w 0 lI
def FOps (w:World):Prop:=jT w 1 lJ
theorem uI {k:Nat} (h:k < 23):lI[k]? =some (.string (dw k)):=by
 have hl:k < qp.length:=h;unfold lI dw;simp [List.getElem?_eq_getElem hl,List.getD_eq_getElem?_getD]
theorem uJ {k:Nat} (h:k < 9):lJ[k]? =some (.string (opN k)):=by
 have hl:k < opL.length:=h;unfold lJ opN;simp [List.getElem?_eq_getElem hl,List.getD_eq_getElem?_getD]
theorem FNames.at {w:World} (h:FNames w) {k:Nat} (hk:k < 23):w.cell? ⟨0,k,none⟩=some (.string (dw k)):=(jT.cell h k).trans (uI hk)
theorem FOps.at {w:World} (h:FOps w) {k:Nat} (hk:k < 9):w.cell? ⟨1,k,none⟩=some (.string (opN k)):=(jT.cell h k).trans (uJ hk)
theorem FNames.below {w w' :World} (h:FNames w) (hb:Below w.heap.size w w'):FNames w' :=jT.below h hb (Nat.le_refl _)
theorem FOps.below {w w' :World} (h:FOps w) (hb:Below w.heap.size w w'):FOps w' :=jT.below h hb (Nat.le_refl _)
attribute [local irreducible] lI lJ dw opN
end Go.Proofs.YtnpaoepkpdileaaGreatDoor
namespace Go.Proofs.YtnpaoepkpdileaaGreatDoor
open Go.RowKit
theorem Cv:∀ (k u:Nat),u < 10 ^ (k+1)→Lib.nDigits u≤k+1
 | 0,u,h=>by rw [Lib.nDigits_small (by simpa using h)];omega
 | k+1,u,h=>by
  by_cases hu:u < 10
  · rw [Lib.nDigits_small hu];omega
  · rw [Lib.nDigits_big hu];have:=Cv k (u / 10) (by rw [Nat.pow_succ] at h;omega);omega
theorem uP (u:Nat) (h:u < 10000000000000000000):(Lib.decDigits u).length≤19:=by
 rw [Lib.decDigits_length];exact Cv 18 u h
attribute [local irreducible] Utf8.encode
end Go.Proofs.YtnpaoepkpdileaaGreatDoor
namespace Go.Proofs.YtnpaoepkpdileaaGreatDoor
open Go.RowKit
def zQ (n:Int):ByteArray:=⟨(Lib.itoa n).toArray⟩
def Pow (w : World) : Prop := Lib.TabIs Tryz.prog w "internal/strconv.uint64pow10" .u64 Lib.pow10Tab
theorem FK : Tryz.prog.globalNamed "internal/strconv.uint64pow10" = some 3 := by kernel_rfl
theorem uQ {P:Program} {w w' :World} {name:String} {g:Nat} {cs:Array Value} {B:Nat} (hg:P.globalNamed name=some g) (h:w.var? P name=some cs) (hb:Below B w w') (hB:w.heap.size≤B):w'.var? P name=some cs:=by
 have hlt:g < w.heap.size:=by
  unfold World.var? at h;rw [hg] at h;simp only [Option.bind_some] at h;split at h
  · rename_i he;exact (Array.getElem?_eq_some_iff.1 he).1
  · cases h
 unfold World.var? at h ⊢;rw [hg] at h ⊢;simp only [Option.bind_some] at h ⊢;rw [hb.block g (by omega)];exact h
theorem Pow.below {B:Nat} {w w' :World} (h:Pow w) (hb:Below B w w') (hB:w.heap.size≤B):Pow w' :=uQ FK h hb hB
theorem FM (n:Int) (h0: -9223372036854775808≤n) (h1:n≤9223372036854775807) (w:World) (hp:Pow w):
  Calls Tryz.prog 48 #[.int .i64 n] w fun e w' =>e= .returned (.string (zQ n))∧Below w.heap.size w w' :=
 (Tryz.strconv_Itoa n h0 h1 w hp).mono fun _ _ hh=>⟨hh.1,by obtain ⟨k,os,rfl⟩:=hh.2;exact Lib.below_grow _ _ (Nat.le_refl _) _ _⟩
theorem Tryz.info5:(Tryz.prog.info? 5).map (fun i=>(i.zero,i.size,i.bytes))=some (some (.int .u8 0),1,1):=by kernel_rfl
def Jg:Array Value:=#[.int .u8 48, .int .u8 49, .int .u8 50, .int .u8 51, .int .u8 52, .int .u8 53, .int .u8 54, .int .u8 55, .int .u8 56, .int .u8 57, .int .u8 97, .int .u8 98, .int .u8 99, .int .u8 100, .int .u8 101, .int .u8 102]
def Tab (w:World):Prop:=jT w 2 Jg
theorem Tab.cell {w:World} (h:Tab w) (i:Nat) (hi:i < 16):w.cell? ⟨2,i,none⟩=some (bv (qQ i)):=by
 rw [jT.cell h i];have:i=0∨i=1∨i=2∨i=3∨i=4∨i=5∨i=6∨i=7∨i=8∨i=9∨i=10∨i=11∨i=12∨i=13∨i=14∨i=15:=by omega
 rcases this with h | h | h | h | h | h | h | h | h | h | h | h | h | h | h | h <;> (subst h;rfl)
theorem Tab.below {B:Nat} {w w' :World} (h:Tab w) (hb:Below B w w') (hB:w.heap.size≤B):Tab w' :=jT.below h hb hB
theorem Cw (s:ByteArray) (k:Nat) (hlt:k < s.size) (xs:List Value) (h:xs=(120 :: rQ (s.data.toList.take k)).map bv):
  xs ++ [bv (qQ (s[k].toNat / 16)),bv (qQ (s[k].toNat % 16))]=(120 :: rQ (s.data.toList.take (k+1))).map bv:=by
 rw [j4 s k hlt,sD,h];simp [Bg]
theorem qY (s:ByteArray) (hs:¬ 640 < s.size) (hu:iO s.data.toList=false):dX s=⟨(120 :: rQ s.data.toList).toArray⟩:=by
 unfold dX kX;rw [if_neg hs,hu];rfl
theorem o9 (s:ByteArray) (hs:¬ 640 < s.size) (hu:iO s.data.toList=true):dX s=⟨(34 :: (s.data.toList ++ [34])).toArray⟩:=by
 unfold dX kX;rw [if_neg hs,hu];rfl
theorem nU (s:ByteArray) (hs:¬ 640 < s.size):jF s=0:=if_neg hs
theorem tup {a b:ByteArray} {m n:Int} (h:a=b) (k:m=n):Ending.returned (.tuple #[.string a, .int .i64 m])= .returned (.tuple #[.string b, .int .i64 n]):=by rw [h,k]
theorem qZ (s:ByteArray) (w:World) (hs:s.size≤640) (hu:iO s.data.toList=false) (ht:Tab w):
  Calls Tryz.prog 47 #[.string s] w fun e w' =>e= .returned (.tuple #[.string (dX s), .int .i64 (jF s)])∧Below w.heap.size w w' :=by
 obtain ⟨i0,hi,hz0,hz1,hz2⟩:=info_parts Tryz.info5;have h8:decide (640 < (s.size:Int))=false:=by simp;omega
 have HU:=Hd hu;have HQ:=Hd (qY s (by omega) hu);have HE:=Hd (nU s (by omega));clear hu;go_in;go_wp2_with (first
  | (go_at_call 70;refine (Cs _ _ (by unfold maxLen;omega)).mono ?_;rintro e w' ⟨rfl,rfl⟩;rw [HU.o])
  | (at_make;refine wpList_make_own _ rfl _ _ 129 rfl w.heap.size 5 i0 _ 1 Tryz.underlying129 hi hz0 hz1 _ _ _ (1+2 * s.size) rfl rfl (by omega) (by rw [hz2];omega) (by unfold maxLen;omega) (Nat.le_refl _) ?_;intro w1 hown1 hg1)
  | (at_builtin;refine wpList_append_own _ rfl _ _ 129 rfl w.heap.size 5 i0 _ 1 1 Tryz.underlying129 hi hz0 hz1 hz2 rfl (by omega) _ _ _ rfl (hown1.alloc _) ⟨w1.heap.size,0,none⟩ 1 1 [.int .u8 120] rfl rfl (cell_one_new _ _ _) (by simp [Value.oneCell']) (by unfold maxLen;omega) (by omega) (by have:=hg1.size;simp;omega) ?_;intro v2 w2 hown2 hg2 _))
 have hb1:Below w.heap.size w w1:=(Below.refl _ _).grown hg1 (Nat.le_refl _) (by simp);have hb2:Below w.heap.size w w2:=gN (hb1.alloc hb1.size _) hown1 (Nat.le_refl _) hg2 (by have:=hb1.size;simp;omega);clear hg1 hg2 hown1 hb1;go_loopw [4,24] (fun v i wr=>∃ k:Nat,k≤s.size∧i= .int .i64 k∧wr.ownsRow w.heap.size 5 1 v (1+2 * k) ((120 :: rQ (s.data.toList.take k)).map bv)∧Below w.heap.size w wr) (fun _ i _=>s.size - (intOf i).toNat);case atStart=>exact ⟨0,Nat.zero_le _,rfl,by simpa [rQ,bv] using hown2,hb2⟩
 case round=>
  obtain ⟨k,hk,rfl,hown,hb⟩:=hrel;clear hown2 hb2;by_cases hlt:k < s.size
  · have q1:(0:Int)≤(s[k].toNat:Int):=(by omega);have q2:(s[k].toNat:Int) < 256:=(by have:=s[k].toNat_lt;omega);have q3:(0:Int)≤(k:Int):=(by omega);have q4:(k:Int) < (s.size:Int):=(by omega);have q5:(0:Int)≤(s[k].toNat:Int) / 16:=(by omega);have q6:(s[k].toNat:Int) / 16 < 16:=(by omega);have q7:(0:Int)≤(s[k].toNat:Int) % 16:=(by omega);have q8:(s[k].toNat:Int) % 16 < 16:=(by omega);have ht' :=ht.below hb (Nat.le_refl _);have p1:wr.cell? ⟨2,((s[k].toNat:Int) / 16).toNat,none⟩=some (bv (qQ (s[k].toNat / 16))):=by
     rw [show ((s[k].toNat:Int) / 16).toNat=s[k].toNat / 16 by omega];exact ht'.cell _ (by omega)
    have p2:wr.cell? ⟨2,((s[k].toNat:Int) % 16).toNat,none⟩=some (bv (qQ (s[k].toNat % 16))):=by
     rw [show ((s[k].toNat:Int) % 16).toNat=s[k].toNat % 16 by omega];exact ht'.cell _ (by omega)
    have lt0:2 < wr.heap.size:=jT.lt ht';have ne0:∀ j,u4.ownBlock=some j→w.heap.size≤j:=fun j hj=>(hown.lt j hj).1;have NE:=Hd (show some 2≠u4.ownBlock from fun e=>by have:=ne0 _ e.symm;have:=jT.lt ht;omega);have q9:bits .and .u8 (s[k].toNat:Int) 15=(s[k].toNat:Int) % 16:=u8_and15 _ q1 q2;clear ht' ne0;go_wp2_with fail
    go_region_held3 (fun w' =>w'.cell? ⟨2,((s[k].toNat:Int) / 16).toNat,none⟩=some (bv (qQ (s[k].toNat / 16)))∧w'.cell? ⟨2,((s[k].toNat:Int) % 16).toNat,none⟩=some (bv (qQ (s[k].toNat % 16)))) (first | go_keep | (go_split_ands;refine ⟨?_,?_⟩ <;> (rw [hgrow.cell_far _ (by simp <;> omega) NE.o];assumption)))
     ((refine step_append_lies _ (by rfl) _ _ _ (by rfl) w.heap.size 5 i0 _ 1 1 Tryz.underlying129 hi hz0 hz1 hz2 rfl (by omega) u4 (1+2 * k) _ (by rfl) ((hown.alloc _).drew) ⟨wr.heap.size,0,none⟩ 2 2 [bv (qQ (s[k].toNat / 16)),bv (qQ (s[k].toNat % 16))] (by rfl) (by rfl) (World.news_of_block (cs:=#[bv (qQ (s[k].toNat / 16)),bv (qQ (s[k].toNat % 16))]) (t:=5) (fr:=(0,0)) (heap_alloc_new wr _)) (by simp [Value.oneCell']) (by omega) (by unfold maxLen;omega) (by omega) (by have:=hb.size;simp;omega) (wr.heap.size+1) (by simp) ?_;intro gg cap w3 hown3 hgrow hat hlt3))
    all_goals
     have hb3:Below w.heap.size w w3:=gN ((hb.alloc hb.size _).drew) hown (Nat.le_refl _) hgrow (by have:=hb.size;simp;omega);rw [Cw s k hlt _ rfl] at hown3;clear hgrow hat q9 p1 p2
     go_wp2
     go_roundw;case rel=>exact ⟨k+1,by omega,by go_num,by rw [show 1+2 * (k+1)=1+2 * k+2 by omega];exact hown3,hb3⟩
     case measure=>simp [intOf];omega
  · obtain rfl:k=s.size:=(by omega);rw [jS s s.size (Nat.le_refl _)] at hown;have hcv:=wF (P:=Tryz.prog) (src:=129) (dst:=9) hown Tryz.underlying129 Tryz.underlying5 Tryz.underlying9;rw [← HQ.o] at hcv
    go_wp2
    go_ret2;exact ⟨tup rfl HE.o.symm,hb⟩
theorem nV (s:ByteArray) (w:World) (hs:s.size≤640) (hu:iO s.data.toList=true):
  Calls Tryz.prog 47 #[.string s] w fun e w' =>e= .returned (.tuple #[.string (dX s), .int .i64 (jF s)])∧Below w.heap.size w w' :=by
 have HU:=Hd hu;have HQ:=Hd (o9 s (by omega) hu);have HE:=Hd (nU s (by omega));clear hu;go_in;go_wp2_with (go_at_call 70;refine (Cs _ _ (by unfold maxLen;omega)).mono ?_;rintro e w' ⟨rfl,rfl⟩;rw [HU.o]);go_ret2;refine ⟨tup ?_ HE.o.symm,Below.refl _ _⟩;rw [HQ.o];rfl
theorem pg (s:ByteArray) (w:World) (hs:¬ s.size≤640) (hm:s.size≤maxLen):
  Calls Tryz.prog 47 #[.string s] w fun e w' =>e= .returned (.tuple #[.string (dX s), .int .i64 (jF s)])∧Below w.heap.size w w' :=by
 unfold maxLen at hm;have HQ:=Hd (show dX s=⟨#[]⟩ from if_pos (by omega));have HE:=Hd (show jF s=20 from if_pos (by omega));go_in
 go_wp2
 go_ret2;exact ⟨tup HQ.o.symm HE.o.symm,Below.refl _ _⟩
theorem Cx (s:ByteArray) (w:World) (hm:s.size≤maxLen) (ht:Tab w):
   Calls Tryz.prog 47 #[.string s] w fun e w' =>e= .returned (.tuple #[.string (dX s), .int .i64 (jF s)])∧Below w.heap.size w w' :=by
 by_cases hs:s.size≤640
 · cases hu:iO s.data.toList
   · exact qZ s w hs hu ht
   · exact nV s w hs hu
 · exact pg s w hs hm
structure Ctx where
 ph:Int
 p:Nat→Int
 a:Nat→Int
 ex:Int
 ty:Int
 comm:ByteArray
 exe:ByteArray
structure Itm where
 dev:Int
 ino:Int
 uid:Int
 gid:Int
 kind:Int
def Itm.none:Itm:=⟨0,0,0,0,0⟩
def rU (c:Ctx) (i:Itm) (f:Int):Int:=
 if f≤8 then c.p (f - 1).toNat
 else if f≤12 then c.a (f - 9).toNat
 else if f=15 then c.ex
 else if f=16 then (if 0≤c.ex then 1 else 0)
 else if f=17 then i.ino
 else if f=18 then i.dev
 else if f=19 then i.uid
 else if f=20 then i.gid
 else if f=21 then i.kind
 else c.ty
def eU (c:Ctx) (f:Int):Bool:=if 15≤f∧f≤21 then decide (c.ph=2) else decide (f≠22∨c.ty≠0)
def Ht (a b:Int):Int:=bits .and .i64 a b
def zR (op a b:Int):Bool:=
 if op=1 then a == b else if op=2 then a != b else if op=3 then decide (a < b) else if op=4 then decide (a≤b)
 else if op=5 then decide (b < a) else if op=6 then decide (b≤a) else if op=7 then Ht a b != 0 else Ht a b == b
def bI (fd op nu:Int) (tx:ByteArray) (ot:Int):Bool:=
 decide (aj fd op nu tx ot 1=0) || (decide (aj fd op nu tx ot 2=0) || (decide (aj fd op nu tx ot 3=0) || (decide (aj fd op nu tx ot 4=0) || decide (aj fd op nu tx ot 5=0))))
def cz (c:Ctx) (fd op nu:Int) (tx:ByteArray) (ot:Int) (i:Itm):Bool:=
 if bD fd=true then (((if fd=14 then c.comm else c.exe).toList == tx.toList) == decide (op=1)) else zR op (rU c i fd) (if ot=0 then nu else rU c i ot)
def eQ (i:Itm):Bool:=decide (i.dev≠0∨i.ino≠0)
def gV (c:Ctx) (L:List Itm) (fd op nu:Int) (tx:ByteArray) (ot:Int):Bool:=
 if bI fd op nu tx ot=false∨eU c fd=false∨(ot≠0∧eU c ot=false) then false
 else if dx fd=false∧dx ot=false then cz c fd op nu tx ot Itm.none
 else L.any fun i=>eQ i && cz c fd op nu tx ot i
def bA (c:Ctx) (fd op nu:Int) (tx:ByteArray) (ot:Int) (i:Itm):Bool:=
 if bD fd=false∧(eU c fd=false∨(ot≠0∧eU c ot=false)) then false else cz c fd op nu tx ot i
def gW (c:Ctx) (L:List Itm) (fd op nu:Int) (tx:ByteArray) (ot:Int):Bool:=
 if bI fd op nu tx ot=false then false
 else if dx fd=false∧dx ot=false then bA c fd op nu tx ot Itm.none
 else L.any fun i=>eQ i && bA c fd op nu tx ot i
theorem lK {fd op nu:Int} {tx:ByteArray} {ot:Int} (h:bI fd op nu tx ot=true):∃ l,aj fd op nu tx ot l=0:=by
 unfold bI at h;simp only [Bool.or_eq_true,decide_eq_true_eq] at h;rcases h with h | h | h | h | h
 · exact ⟨_,h⟩
 · exact ⟨_,h⟩
 · exact ⟨_,h⟩
 · exact ⟨_,h⟩
 · exact ⟨_,h⟩
theorem xm {c:Ctx} {f:Int} (h:bD f=true):eU c f=true:=by
 unfold bD at h;unfold eU;simp at h;rw [if_neg (by omega)];simp;omega
theorem uT (c:Ctx) (L:List Itm) (fd op nu:Int) (tx:ByteArray) (ot:Int):gW c L fd op nu tx ot=gV c L fd op nu tx ot:=by
 cases hs:bI fd op nu tx ot
 · unfold gW gV;rw [if_pos hs,if_pos (.inl hs)]
 · obtain ⟨l,hl⟩:=lK hs;obtain ⟨h1,h2,h3,h4,h5,h6,h7⟩:=iJ hl;have ht:bD fd=true→ot=0:=fun h=>by
     rcases h2 with h2 | h2
     · exact h2
     · have:=iw h2.2.1;rw [h] at this;cases this
   have hns:¬ bI fd op nu tx ot=false:=(by rw [hs];decide);have eP:gW c L fd op nu tx ot=if dx fd=false∧dx ot=false then bA c fd op nu tx ot Itm.none else L.any fun i=>eQ i && bA c fd op nu tx ot i:=(by unfold gW;rw [if_neg hns]);by_cases hbad:eU c fd=false∨(ot≠0∧eU c ot=false)
   · have htx:bD fd=false:=by
       cases hx:bD fd
       · rfl
       · rcases hbad with hb | hb
         · rw [xm hx] at hb;cases hb
         · exact absurd (ht hx) hb.1
     have hp:∀ i,bA c fd op nu tx ot i=false:=fun i=>by unfold bA;rw [if_pos ⟨htx,hbad⟩]
     have eF:gV c L fd op nu tx ot=false:=(by unfold gV;rw [if_pos (.inr hbad)]);rw [eP,eF];simp [hp]
   · have hp:∀ i,bA c fd op nu tx ot i=cz c fd op nu tx ot i:=fun i=>by unfold bA;rw [if_neg (fun h=>hbad h.2)]
     have eF:gV c L fd op nu tx ot=if dx fd=false∧dx ot=false then cz c fd op nu tx ot Itm.none else L.any fun i=>eQ i && cz c fd op nu tx ot i:=by
       unfold gV;rw [if_neg];rintro (h | h)
       · exact hns h
       · exact hbad h
     rw [eP,eF];simp [hp]
structure nz where
 name:ByteArray
 nums:Nat
 kL:Nat
 least:Nat
 most:Nat
def xJ:List nz:= [
 ⟨⟨#[102,111,114,107]⟩,0,0,0,0⟩,
 ⟨⟨#[101,120,101,99,118,101]⟩,0,1,0,4⟩,
 ⟨⟨#[101,120,105,116]⟩,1,0,0,0⟩,
 ⟨⟨#[115,101,116,117,105,100]⟩,1,0,0,0⟩,
 ⟨⟨#[115,101,116,103,105,100]⟩,1,0,0,0⟩,
 ⟨⟨#[108,111,103,105,110]⟩,1,0,0,0⟩,
 ⟨⟨#[111,112,101,110]⟩,2,1,0,0⟩,
 ⟨⟨#[99,108,111,115,101]⟩,1,0,0,0⟩,
 ⟨⟨#[108,105,110,107]⟩,0,2,0,0⟩,
 ⟨⟨#[115,121,109,108,105,110,107]⟩,0,1,1,1⟩,
 ⟨⟨#[117,110,108,105,110,107]⟩,0,1,0,0⟩,
 ⟨⟨#[109,107,100,105,114]⟩,1,1,0,0⟩,
 ⟨⟨#[114,109,100,105,114]⟩,0,1,0,0⟩,
 ⟨⟨#[114,101,110,97,109,101]⟩,0,2,0,0⟩,
 ⟨⟨#[99,104,109,111,100]⟩,1,1,0,0⟩,
 ⟨⟨#[99,104,111,119,110]⟩,2,1,0,0⟩,
 ⟨⟨#[99,104,100,105,114]⟩,0,1,0,0⟩,
 ⟨⟨#[109,111,117,110,116]⟩,1,1,0,0⟩,
 ⟨⟨#[117,109,111,117,110,116]⟩,1,0,0,0⟩,
 ⟨⟨#[99,111,110,110,101,99,116]⟩,1,0,1,1⟩,
 ⟨⟨#[107,105,108,108]⟩,2,0,0,0⟩,
 ⟨⟨#[116,114,117,110,99,97,116,101]⟩,1,1,0,0⟩]
def nz.cells (k:IntKind) (r:nz):List Value:= [.string r.name, .int k r.nums, .int k r.kL, .int k r.least, .int k r.most]
def nz.val (k:IntKind) (r:nz):Value:= .agg #[.string r.name, .int k r.nums, .int k r.kL, .int k r.least, .int k r.most]
def fq (n:Nat):nz:=xJ.getD n ⟨⟨#[]⟩,0,0,0,0⟩
def eT (z:Int):nz:=if z < 0 then ⟨⟨#[]⟩,0,0,0,0⟩ else fq z.toNat
def dM (k:IntKind):Array Value:=((xJ.map (nz.cells k)).flatten).toArray
theorem vI (k:IntKind) (n:Nat) (h:n < 22):(dM k)[n * 5]? =some (.string (fq n).name)∧(dM k)[n * 5+1]? =some (.int k (fq n).nums)∧(dM k)[n * 5+2]? =some (.int k (fq n).kL)∧(dM k)[n * 5+3]? =some (.int k (fq n).least)∧(dM k)[n * 5+4]? =some (.int k (fq n).most):=by
 have H:∀ m:Fin 22,(dM k)[m.val * 5]? =some (.string (fq m).name)∧(dM k)[m.val * 5+1]? =some (.int k (fq m).nums)∧(dM k)[m.val * 5+2]? =some (.int k (fq m).kL)∧(dM k)[m.val * 5+3]? =some (.int k (fq m).least)∧(dM k)[m.val * 5+4]? =some (.int k (fq m).most):=by
  intro m
  match m with
  | ⟨0,_⟩=>exact ⟨rfl,rfl,rfl,rfl,rfl⟩
  | ⟨1,_⟩=>exact ⟨rfl,rfl,rfl,rfl,rfl⟩
  | ⟨2,_⟩=>exact ⟨rfl,rfl,rfl,rfl,rfl⟩
  | ⟨3,_⟩=>exact ⟨rfl,rfl,rfl,rfl,rfl⟩
  | ⟨4,_⟩=>exact ⟨rfl,rfl,rfl,rfl,rfl⟩
  | ⟨5,_⟩=>exact ⟨rfl,rfl,rfl,rfl,rfl⟩
  | ⟨6,_⟩=>exact ⟨rfl,rfl,rfl,rfl,rfl⟩
  | ⟨7,_⟩=>exact ⟨rfl,rfl,rfl,rfl,rfl⟩
  | ⟨8,_⟩=>exact ⟨rfl,rfl,rfl,rfl,rfl⟩
  | ⟨9,_⟩=>exact ⟨rfl,rfl,rfl,rfl,rfl⟩
  | ⟨10,_⟩=>exact ⟨rfl,rfl,rfl,rfl,rfl⟩
  | ⟨11,_⟩=>exact ⟨rfl,rfl,rfl,rfl,rfl⟩
  | ⟨12,_⟩=>exact ⟨rfl,rfl,rfl,rfl,rfl⟩
  | ⟨13,_⟩=>exact ⟨rfl,rfl,rfl,rfl,rfl⟩
  | ⟨14,_⟩=>exact ⟨rfl,rfl,rfl,rfl,rfl⟩
  | ⟨15,_⟩=>exact ⟨rfl,rfl,rfl,rfl,rfl⟩
  | ⟨16,_⟩=>exact ⟨rfl,rfl,rfl,rfl,rfl⟩
  | ⟨17,_⟩=>exact ⟨rfl,rfl,rfl,rfl,rfl⟩
  | ⟨18,_⟩=>exact ⟨rfl,rfl,rfl,rfl,rfl⟩
  | ⟨19,_⟩=>exact ⟨rfl,rfl,rfl,rfl,rfl⟩
  | ⟨20,_⟩=>exact ⟨rfl,rfl,rfl,rfl,rfl⟩
  | ⟨21,_⟩=>exact ⟨rfl,rfl,rfl,rfl,rfl⟩
  | ⟨m+22,h⟩=>omega
 exact H ⟨n,h⟩
theorem rD (n:Nat):(fq n).nums≤2∧(fq n).kL≤2∧(fq n).least≤1∧(fq n).most≤4∧(fq n).name.size≤8:=by
 by_cases h:n < 22
 · have H:∀ m:Fin 22,(fq m).nums≤2∧(fq m).kL≤2∧(fq m).least≤1∧(fq m).most≤4∧(fq m).name.size≤8:=(by decide+kernel);exact H ⟨n,h⟩
 · have:fq n=⟨⟨#[]⟩,0,0,0,0⟩:=by
    unfold fq;rw [List.getD_eq_getElem?_getD,List.getElem?_eq_none (by show 22≤n;omega)];rfl
   rw [this];decide
end Go.Proofs.YtnpaoepkpdileaaGreatDoor
