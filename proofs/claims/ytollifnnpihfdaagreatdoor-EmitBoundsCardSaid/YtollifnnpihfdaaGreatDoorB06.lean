import Derived.Test.YtollifnnpihfdaaGreatDoorB01
import Derived.Lib.ItoaNum
import Derived.WalkLawsBesides
import Derived.Deep.RegionHeld3
import Derived.Deep.AppendLies
set_option maxRecDepth 100000
set_option maxHeartbeats 64000000
set_option linter.all false
namespace Go.Proofs.YtollifnnpihfdaaGreatDoor
open Go.RowKit
theorem Gl (s:ByteArray) (w:World) (hs:s.size≤maxLen):
  Calls Tryz.prog 244 #[.string s] w fun e w' =>e= .returned (.bool (gQ s.data.toList))∧w=w' :=by
 unfold maxLen at hs;go_in
 go_wp2
 go_loop [6] (fun i=>∃ k:Nat,k≤s.size∧i= .int .i64 k∧Hid (gQ (s.data.toList.take k)=true)) (fun i=>s.size - (intOf i).toNat);case atStart=>exact ⟨0,Nat.zero_le _,rfl,rfl⟩
 case round=>
  obtain ⟨k,hk,rfl,eU⟩:=hrel;by_cases hlt:k < s.size
  · by_cases hc:okc s[k]=true
    · have H:=Hd (oQ s k hlt eU.o hc);obtain ⟨c1,c2,c3⟩:=jW hc;clear hc
      go_wp2
      go_round
      case rel=>exact ⟨k+1,by omega,by go_num,H⟩
      case measure=>simp [intOf];omega
    · have H:=Hd (oU s k hlt (by simpa using hc));have hc' :=Hd hc;clear hc
      go_wp2
      case roundEnd=>exact absurd (rH (by omega) (by omega) (by simp_all)) hc'.o
      all_goals
       go_ret;exact ⟨um H.o.symm,rfl⟩
  · go_wp2
    go_ret;exact ⟨um (by rw [← gm s k (by omega),eU.o]),rfl⟩
theorem Gm (s:ByteArray) (w:World) (hs:s.size≤maxLen):
  Calls Tryz.prog 240 #[.string s] w fun e w' =>e= .returned (.bool (gQ s.data.toList))∧w=w' :=by
 unfold maxLen at hs;go_in
 go_wp2
 go_loop [3] (fun i=>∃ k:Nat,k≤s.size∧i= .int .i64 k∧Hid (gQ (s.data.toList.take k)=true)) (fun i=>s.size - (intOf i).toNat);case atStart=>exact ⟨0,Nat.zero_le _,rfl,rfl⟩
 case round=>
  obtain ⟨k,hk,rfl,eU⟩:=hrel;by_cases hlt:k < s.size
  · by_cases hc:okc s[k]=true
    · have H:=Hd (oQ s k hlt eU.o hc);obtain ⟨c1,c2,c3⟩:=jW hc;clear hc
      go_wp2
      go_round
      case rel=>exact ⟨k+1,by omega,by go_num,H⟩
      case measure=>simp [intOf];omega
    · have H:=Hd (oU s k hlt (by simpa using hc));have hc' :=Hd hc;clear hc
      go_wp2
      case roundEnd=>exact absurd (rH (by omega) (by omega) (by simp_all)) hc'.o
      all_goals
       go_ret;exact ⟨um H.o.symm,rfl⟩
  · go_wp2
    go_ret;exact ⟨um (by rw [← gm s k (by omega),eU.o]),rfl⟩
def Gx (f:Int):Bool:=decide ((1≤f∧f≤8)∨f=13∨f=14)
def wJ (l f:Int):Bool:=
 if l=1∨l=4 then Gx f
 else if l=2 then decide (1≤f∧f≤14)
 else if l=3 then decide (1≤f∧f≤21)
 else if l=5 then Gx f || decide (f=22)
 else false
def pJ (f:Int):Bool:=decide (f=13∨f=14)
def wK (f:Int):Bool:=decide ((3≤f∧f≤7)∨f=19∨f=20)
def wL (f:Int):Bool:=decide (17≤f∧f≤21)
def iJ (fd op nu:Int) (tx:ByteArray) (ot l:Int):Int:=
 if wJ l fd=false then 120
 else if ot≠0∧(wJ l ot=false∨wK fd=false∨wK ot=false) then 120
 else if op < 1∨8 < op then 121
 else if 2 < op∧(pJ fd=true∨ot≠0) then 121
 else if ot≠0∧(nu≠0∨tx.size≠0) then 122
 else if pJ fd=true∧(nu≠0∨tx.size=0∨640 < tx.size) then 122
 else if pJ fd=false∧tx.size≠0 then 122
 else 0
theorem wM:∀ d:Fin 10,Utf8.encode (48+(d.val:Int))=⟨#[UInt8.ofNat (48+d.val)]⟩:=by decide+kernel
theorem wN (x:Int) (h0:0≤x) (h1:x < 10):Utf8.encode (48+x)=⟨#[UInt8.ofNat (48+x.toNat)]⟩:=by
 have:=wM ⟨x.toNat,by omega⟩;simp only [Int.toNat_of_nonneg h0] at this;exact this
attribute [local irreducible] Utf8.encode
end Go.Proofs.YtollifnnpihfdaaGreatDoor
namespace Go.Proofs.YtollifnnpihfdaaGreatDoor
open Go.RowKit
theorem Tryz.info5:(Tryz.prog.info? 5).map (fun i=>(i.zero,i.size,i.bytes))=some (some (.int .u8 0),1,1):=by kernel_rfl
def NU:Array Value:=#[.int .u8 48, .int .u8 49, .int .u8 50, .int .u8 51, .int .u8 52, .int .u8 53, .int .u8 54, .int .u8 55, .int .u8 56, .int .u8 57, .int .u8 97, .int .u8 98, .int .u8 99, .int .u8 100, .int .u8 101, .int .u8 102]
def Tab (w:World):Prop:=qK w 6 NU
theorem Tab.cell {w:World} (h:Tab w) (i:Nat) (hi:i < 16):w.cell? ⟨6,i,none⟩=some (bv (qJ i)):=by
 rw [qK.cell h i];have:i=0∨i=1∨i=2∨i=3∨i=4∨i=5∨i=6∨i=7∨i=8∨i=9∨i=10∨i=11∨i=12∨i=13∨i=14∨i=15:=by omega
 rcases this with h | h | h | h | h | h | h | h | h | h | h | h | h | h | h | h <;> (subst h;rfl)
theorem Tab.below {B:Nat} {w w' :World} (h:Tab w) (hb:Below B w w') (hB:w.heap.size≤B):Tab w' :=qK.below h hb hB
theorem Gy (s:ByteArray) (k:Nat) (hlt:k < s.size) (xs:List Value) (h:xs=(120 :: tu (s.data.toList.take k)).map bv):
  xs ++ [bv (qJ (s[k].toNat / 16)),bv (qJ (s[k].toNat % 16))]=(120 :: tu (s.data.toList.take (k+1))).map bv:=by
 rw [gW s k hlt,oW,h];simp [EN]
theorem mI (s:ByteArray) (hs:¬ 640 < s.size) (hu:gQ s.data.toList=false):df s=⟨(120 :: tu s.data.toList).toArray⟩:=by
 unfold df oV;rw [if_neg hs,hu];rfl
theorem kZ (s:ByteArray) (hs:¬ 640 < s.size) (hu:gQ s.data.toList=true):df s=⟨(34 :: (s.data.toList ++ [34])).toArray⟩:=by
 unfold df oV;rw [if_neg hs,hu];rfl
theorem il (s:ByteArray) (hs:¬ 640 < s.size):iH s=0:=if_neg hs
theorem tup {a b:ByteArray} {m n:Int} (h:a=b) (k:m=n):Ending.returned (.tuple #[.string a, .int .i64 m])= .returned (.tuple #[.string b, .int .i64 n]):=by rw [h,k]
theorem EW (s:ByteArray) (w:World) (hs:s.size≤640) (hu:gQ s.data.toList=false) (ht:Tab w):
  Calls Tryz.prog 184 #[.string s] w fun e w' =>e= .returned (.tuple #[.string (df s), .int .i64 (iH s)])∧Below w.heap.size w w' :=by
 obtain ⟨i0,hi,hz0,hz1,hz2⟩:=info_parts Tryz.info5;have h8:decide (640 < (s.size:Int))=false:=by simp;omega
 have HU:=Hd hu;have HQ:=Hd (mI s (by omega) hu);have HE:=Hd (il s (by omega));clear hu;go_in;go_wp2_with (first
  | (go_at_call 244;refine (Gl _ _ (by unfold maxLen;omega)).mono ?_;rintro e w' ⟨rfl,rfl⟩;rw [HU.o])
  | (at_make;refine wpList_make_own _ rfl _ _ 265 rfl w.heap.size 5 i0 _ 1 Tryz.underlying265 hi hz0 hz1 _ _ _ (1+2 * s.size) rfl rfl (by omega) (by rw [hz2];omega) (by unfold maxLen;omega) (Nat.le_refl _) ?_;intro w1 hown1 hg1)
  | (at_builtin;refine wpList_append_own _ rfl _ _ 265 rfl w.heap.size 5 i0 _ 1 1 Tryz.underlying265 hi hz0 hz1 hz2 rfl (by omega) _ _ _ rfl (hown1.alloc _) ⟨w1.heap.size,0,none⟩ 1 1 [.int .u8 120] rfl rfl (cell_one_new _ _ _) (by simp [Value.oneCell']) (by unfold maxLen;omega) (by omega) (by have:=hg1.size;simp;omega) ?_;intro v2 w2 hown2 hg2 _))
 have hb1:Below w.heap.size w w1:=(Below.refl _ _).grown hg1 (Nat.le_refl _) (by simp);have hb2:Below w.heap.size w w2:=gX (hb1.alloc hb1.size _) hown1 (Nat.le_refl _) hg2 (by have:=hb1.size;simp;omega);clear hg1 hg2 hown1 hb1;go_loopw [4,24] (fun v i wr=>∃ k:Nat,k≤s.size∧i= .int .i64 k∧wr.ownsRow w.heap.size 5 1 v (1+2 * k) ((120 :: tu (s.data.toList.take k)).map bv)∧Below w.heap.size w wr) (fun _ i _=>s.size - (intOf i).toNat);case atStart=>exact ⟨0,Nat.zero_le _,rfl,by simpa [tu,bv] using hown2,hb2⟩
 case round=>
  obtain ⟨k,hk,rfl,hown,hb⟩:=hrel;clear hown2 hb2;by_cases hlt:k < s.size
  · have q1:(0:Int)≤(s[k].toNat:Int):=(by omega);have q2:(s[k].toNat:Int) < 256:=(by have:=s[k].toNat_lt;omega);have q3:(0:Int)≤(k:Int):=(by omega);have q4:(k:Int) < (s.size:Int):=(by omega);have q5:(0:Int)≤(s[k].toNat:Int) / 16:=(by omega);have q6:(s[k].toNat:Int) / 16 < 16:=(by omega);have q7:(0:Int)≤(s[k].toNat:Int) % 16:=(by omega);have q8:(s[k].toNat:Int) % 16 < 16:=(by omega);have ht' :=ht.below hb (Nat.le_refl _);have p1:wr.cell? ⟨6,((s[k].toNat:Int) / 16).toNat,none⟩=some (bv (qJ (s[k].toNat / 16))):=by
     rw [show ((s[k].toNat:Int) / 16).toNat=s[k].toNat / 16 by omega];exact ht'.cell _ (by omega)
    have p2:wr.cell? ⟨6,((s[k].toNat:Int) % 16).toNat,none⟩=some (bv (qJ (s[k].toNat % 16))):=by
     rw [show ((s[k].toNat:Int) % 16).toNat=s[k].toNat % 16 by omega];exact ht'.cell _ (by omega)
    have lt0:6 < wr.heap.size:=qK.lt ht';have ne0:∀ j,u4.ownBlock=some j→w.heap.size≤j:=fun j hj=>(hown.lt j hj).1;have NE:=Hd (show some 6≠u4.ownBlock from fun e=>by have:=ne0 _ e.symm;have:=qK.lt ht;omega);have q9:bits .and .u8 (s[k].toNat:Int) 15=(s[k].toNat:Int) % 16:=u8_and15 _ q1 q2;clear ht' ne0;go_wp2_with fail
    go_region_held3 (fun w' =>w'.cell? ⟨6,((s[k].toNat:Int) / 16).toNat,none⟩=some (bv (qJ (s[k].toNat / 16)))∧w'.cell? ⟨6,((s[k].toNat:Int) % 16).toNat,none⟩=some (bv (qJ (s[k].toNat % 16)))) (first | go_keep | (go_split_ands;refine ⟨?_,?_⟩ <;> (rw [hgrow.cell_far _ (by simp <;> omega) NE.o];assumption)))
     ((refine step_append_lies _ (by rfl) _ _ _ (by rfl) w.heap.size 5 i0 _ 1 1 Tryz.underlying265 hi hz0 hz1 hz2 rfl (by omega) u4 (1+2 * k) _ (by rfl) ((hown.alloc _).drew) ⟨wr.heap.size,0,none⟩ 2 2 [bv (qJ (s[k].toNat / 16)),bv (qJ (s[k].toNat % 16))] (by rfl) (by rfl) (World.news_of_block (cs:=#[bv (qJ (s[k].toNat / 16)),bv (qJ (s[k].toNat % 16))]) (t:=5) (fr:=(0,0)) (heap_alloc_new wr _)) (by simp [Value.oneCell']) (by omega) (by unfold maxLen;omega) (by omega) (by have:=hb.size;simp;omega) (wr.heap.size+1) (by simp) ?_;intro gg cap w3 hown3 hgrow hat hlt3))
    all_goals
     have hb3:Below w.heap.size w w3:=gX ((hb.alloc hb.size _).drew) hown (Nat.le_refl _) hgrow (by have:=hb.size;simp;omega);rw [Gy s k hlt _ rfl] at hown3;clear hgrow hat q9 p1 p2
     go_wp2
     go_roundw;case rel=>exact ⟨k+1,by omega,by go_num,by rw [show 1+2 * (k+1)=1+2 * k+2 by omega];exact hown3,hb3⟩
     case measure=>simp [intOf];omega
  · obtain rfl:k=s.size:=(by omega);rw [gm s s.size (Nat.le_refl _)] at hown;have hcv:=yQ (P:=Tryz.prog) (src:=265) (dst:=9) hown Tryz.underlying265 Tryz.underlying5 Tryz.underlying9;rw [← HQ.o] at hcv
    go_wp2
    go_ret2;exact ⟨tup rfl HE.o.symm,hb⟩
theorem Bu (s:ByteArray) (w:World) (hs:s.size≤640) (hu:gQ s.data.toList=true):
  Calls Tryz.prog 184 #[.string s] w fun e w' =>e= .returned (.tuple #[.string (df s), .int .i64 (iH s)])∧Below w.heap.size w w' :=by
 have HU:=Hd hu;have HQ:=Hd (kZ s (by omega) hu);have HE:=Hd (il s (by omega));clear hu;go_in;go_wp2_with (go_at_call 244;refine (Gl _ _ (by unfold maxLen;omega)).mono ?_;rintro e w' ⟨rfl,rfl⟩;rw [HU.o]);go_ret2;refine ⟨tup ?_ HE.o.symm,Below.refl _ _⟩;rw [HQ.o];rfl
theorem Dn (s:ByteArray) (w:World) (hs:¬ s.size≤640) (hm:s.size≤maxLen):
  Calls Tryz.prog 184 #[.string s] w fun e w' =>e= .returned (.tuple #[.string (df s), .int .i64 (iH s)])∧Below w.heap.size w w' :=by
 unfold maxLen at hm;have HQ:=Hd (show df s=⟨#[]⟩ from if_pos (by omega));have HE:=Hd (show iH s=20 from if_pos (by omega));go_in
 go_wp2
 go_ret2;exact ⟨tup HQ.o.symm HE.o.symm,Below.refl _ _⟩
def Bv (s:ByteArray) (k:Nat):ByteArray:=⟨(120 :: tu (s.data.toList.take k)).toArray⟩
theorem wO (s:ByteArray) (k:Nat):(Bv s k).size=1+2 * min k s.size:=by
 unfold Bv ByteArray.size;simp [kQ];omega
theorem wP (s:ByteArray) (k:Nat) (h:k < s.size):Bv s (k+1)=Bv s k ++ (⟨#[qJ (s[k].toNat / 16)]⟩ ++ ⟨#[qJ (s[k].toNat % 16)]⟩):=by
 unfold Bv;rw [gW s k h,oW];apply ByteArray.ext;simp [EN]
theorem lg (x:Int) (h0:0≤x) (h1:x < 16) (w:World):(Instr.slice 9 (.string ⟨#[48,49,50,51,52,53,54,55,56,57,97,98,99,100,101,102]⟩) (some (.int .u8 x)) (some (.int .u8 (x+1))) none).run Tryz.prog w= .ok (.string ⟨#[qJ x.toNat]⟩) w:=by
 have:x=0∨x=1∨x=2∨x=3∨x=4∨x=5∨x=6∨x=7∨x=8∨x=9∨x=10∨x=11∨x=12∨x=13∨x=14∨x=15:=by omega
 rcases this with h | h | h | h | h | h | h | h | h | h | h | h | h | h | h | h <;> (subst h;clear h0 h1;show _=_;kernel_rfl)
theorem tK (s:ByteArray) (w:World) (hs:s.size≤640) (hu:gQ s.data.toList=false):
  Calls Tryz.prog 177 #[.string s] w fun e w' =>e= .returned (.tuple #[.string (df s), .int .i64 (iH s)])∧Below w.heap.size w w' :=by
 have h8:decide (640 < (s.size:Int))=false:=by simp;omega
 have HU:=Hd hu;have HQ:=Hd (mI s (by omega) hu);have HE:=Hd (il s (by omega));clear hu;go_in;go_wp2_with (go_at_call 240;refine (Gm _ _ (by unfold maxLen;omega)).mono ?_;rintro e w' ⟨rfl,rfl⟩;rw [HU.o]);go_loopw [4,5] (fun v i wr=>∃ k:Nat,k≤s.size∧i= .int .i64 k∧v= .string (Bv s k)∧Below w.heap.size w wr) (fun _ i _=>s.size - (intOf i).toNat);case atStart=>exact ⟨0,Nat.zero_le _,rfl,rfl,Below.refl _ _⟩
 case round=>
  obtain ⟨k,hk,rfl,rfl,hb⟩:=hrel;by_cases hlt:k < s.size
  · have q1:(0:Int)≤(s[k].toNat:Int):=(by omega);have q2:(s[k].toNat:Int) < 256:=(by have:=s[k].toNat_lt;omega);have q3:(0:Int)≤(k:Int):=(by omega);have q4:(k:Int) < (s.size:Int):=(by omega);have q5:(0:Int)≤(s[k].toNat:Int) / 16:=(by omega);have q6:(s[k].toNat:Int) / 16 < 16:=(by omega);have q7:(0:Int)≤(s[k].toNat:Int) % 16:=(by omega);have q8:(s[k].toNat:Int) % 16 < 16:=(by omega);have q9:bits .and .u8 (s[k].toNat:Int) 15=(s[k].toNat:Int) % 16:=u8_and15 _ q1 q2;have w1:IntKind.u8.wrap ((s[k].toNat:Int) / 16+1)=(s[k].toNat:Int) / 16+1:=(by rw [IntKind.wrap_u8];omega);have w2:IntKind.u8.wrap ((s[k].toNat:Int) % 16+1)=(s[k].toNat:Int) % 16+1:=(by rw [IntKind.wrap_u8];omega);have hz:(Bv s k).size≤1300:=(by rw [wO];omega);have d1:=lg _ q5 q6;have d2:=lg _ q7 q8;go_wp2_with fail;go_quiet (fail);clear w1 w2 d1 d2 q9 hz
    go_wp2
    go_roundw;case rel=>exact ⟨k+1,by omega,by go_num,by rw [wP s k hlt],below_drewN hb _⟩
    case measure=>simp [intOf];omega
  · obtain rfl:k=s.size:=by omega
    go_wp2
    go_ret2;exact ⟨tup (by rw [HQ.o,Bv,gm s s.size (Nat.le_refl _)]) HE.o.symm,hb⟩
theorem pK (s:ByteArray) (w:World) (hs:s.size≤640) (hu:gQ s.data.toList=true):
  Calls Tryz.prog 177 #[.string s] w fun e w' =>e= .returned (.tuple #[.string (df s), .int .i64 (iH s)])∧Below w.heap.size w w' :=by
 have HU:=Hd hu;have HQ:=Hd (kZ s (by omega) hu);have HE:=Hd (il s (by omega));clear hu;go_in;go_wp2_with (go_at_call 240;refine (Gm _ _ (by unfold maxLen;omega)).mono ?_;rintro e w' ⟨rfl,rfl⟩;rw [HU.o]);go_ret2;refine ⟨tup ?_ HE.o.symm,Below.refl _ _⟩;rw [HQ.o];rfl
theorem qZ (s:ByteArray) (w:World) (hs:¬ s.size≤640) (hm:s.size≤maxLen):
  Calls Tryz.prog 177 #[.string s] w fun e w' =>e= .returned (.tuple #[.string (df s), .int .i64 (iH s)])∧Below w.heap.size w w' :=by
 unfold maxLen at hm;have HQ:=Hd (show df s=⟨#[]⟩ from if_pos (by omega));have HE:=Hd (show iH s=20 from if_pos (by omega));go_in
 go_wp2
 go_ret2;exact ⟨tup HQ.o.symm HE.o.symm,Below.refl _ _⟩
theorem Gz (s:ByteArray) (w:World) (hm:s.size≤maxLen):
   Calls Tryz.prog 177 #[.string s] w fun e w' =>e= .returned (.tuple #[.string (df s), .int .i64 (iH s)])∧Below w.heap.size w w' :=by
 by_cases hs:s.size≤640
 · cases hu:gQ s.data.toList
   · exact tK s w hs hu
   · exact pK s w hs hu
 · exact qZ s w hs hm
end Go.Proofs.YtollifnnpihfdaaGreatDoor
