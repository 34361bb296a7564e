import Derived.Test.YtollifnnpihfdaaGreatDoorX06
import Derived.WalkLawsBesides
import Derived.Test.YtollifnnpihfdaaGreatDoorSh
import Derived.Lib.AppendIntMem
import Derived.Deep.RegionHeld3
import Derived.Deep.AppendLies
set_option maxRecDepth 100000
set_option maxHeartbeats 64000000
set_option linter.all false
namespace Go.Proofs.YtollifnnpihfdaaGreatDoor
open Go.RowKit
theorem xV (w:World) (base g:Nat) (b:Int) (h:aW w base g b) (hb:b≤100000000000000):
   Calls Tryz.prog 108 #[.pointer (some ⟨g,0,none⟩)] w (Bc w base g (b+2) 13):=by
 have H:=Hd h;have HB:=Hd hb;clear h hb;go_in;go_wp2_with fail;refine (jN _ base g b _ H.o (by have:=HB.o;omega) (by omega) (by omega)).mono ?_;rintro e w1 ⟨x,rfl,hx0,hx1,hs,hg⟩;have HS:=Hd hs;have hlt:g < w1.heap.size:=dA hs;clear hs;by_cases hx:x=19
 · have hxb:(x == 19)=true:=(by simpa using hx);clear hx;go_wp2_with fail;refine (jV _ base g w1.heap.size (b+1) 8 13 _ 9 (0,0) (HS.o.alloc _) (by have:=HB.o;omega) (heap_alloc_new w1 _) (by omega) rfl (by omega) (by omega) rfl).mono ?_;rintro e w2 ⟨y,rfl,hym,hs2,hg2⟩;have HS2:=Hd hs2;clear hs2;go_wp2_with fail;go_ret;exact ⟨_,rfl,hym,HS2.o.more (by omega),(bF hg _).trans hg2⟩
 · have hxb:(x == 19)=false:=(by simpa using hx);clear hx;go_wp2_with fail;refine (jV _ base g w1.heap.size (b+1) 6 13 _ 9 (0,0) (HS.o.alloc _) (by have:=HB.o;omega) (heap_alloc_new w1 _) (by omega) rfl (by omega) (by omega) rfl).mono ?_;rintro e w2 ⟨y,rfl,hym,hs2,hg2⟩;have HS2:=Hd hs2;clear hs2;go_wp2_with fail;go_ret;exact ⟨_,rfl,hym,HS2.o.more (by omega),(bF hg _).trans hg2⟩
theorem xW (w:World) (base g:Nat) (b:Int) (h:aW w base g b) (hb:b≤10000000000000):
  Calls Tryz.prog 88 #[.pointer (some ⟨g,0,none⟩)] w (Bc w base g (b+20) 60):=by
 have H:=Hd h;have HB:=Hd hb;clear h hb;go_in;go_wp2_with fail;refine (jN _ base g b _ H.o (by have:=HB.o;omega) (by omega) (by omega)).mono ?_;rintro e w1 ⟨x,rfl,hx0,hx1,hs,hg⟩;have HS:=Hd hs;have hlt1:g < w1.heap.size:=dA hs;clear hs;go_wp2_with fail;all_goals
  refine (fQ _ base g w1.heap.size (b+1) 7 0 4 _ 3 (0,0) (HS.o.alloc _) (by have:=HB.o;omega) (heap_alloc_new w1 _) (by omega) rfl (by omega) (by omega) rfl).mono ?_;rintro e w2 ⟨n,rfl,hn0,hn1,hs2,hg2⟩;obtain ⟨n0,rfl⟩:=Int.eq_ofNat_of_zero_le hn0;have HS2:=Hd hs2;have hgf:=(bF hg (.cells #[.int .i64 1, .int .i64 1, .int .i64 2, .int .i64 2, .int .i64 3, .int .i64 0, .int .i64 4] 3)).trans hg2;clear hs2 hg2 hg;go_wp2_with fail;go_loopw [3,5] (fun v i wr=>∃ (T:ByteArray) (k:Nat),v= .string T∧i= .int .i64 (k:Int)∧k≤n0∧T.size≤1+14 * k∧w.grownBy wr (some g)∧Hid (aW wr base g (b+2+3 * k))) (fun _ i _=>n0 - (intOf i).toNat);case atStart=>exact ⟨_,0,rfl,rfl,Nat.zero_le _,by decide,hgf,HS2.o.more (by omega)⟩
  case round=>
   obtain ⟨T,k,rfl,rfl,hk,hT,hgr,hsr⟩:=hrel;clear hgf HS2 HS;have hT4:T.size≤100:=(by omega);by_cases hkn:k < n0
   · by_cases hk0:0 < k;all_goals
       go_wp2_with fail;refine (jN _ base g (b+2+3 * k) _ hsr.o (by have:=HB.o;omega) (by omega) (by omega)).mono ?_;rintro e w3 ⟨y,rfl,hy0,hy1,hs3,hg3⟩;have HS3:=Hd hs3;have hg3' :=hgr.trans hg3;have hlt3:g < w3.heap.size:=dA hs3;clear hs3 hg3;by_cases hy:y=7
       · have hyb:(y == 7)=true:=(by simpa using hy);clear hy;go_wp2_with fail;refine (jV _ base g w3.heap.size (b+2+3 * k+1) 4 13 _ 9 (0,0) (HS3.o.alloc _) (by have:=HB.o;omega) (heap_alloc_new w3 _) (by omega) rfl (by omega) (by omega) rfl).mono ?_;rintro e w4 ⟨z,rfl,hzm,hs4,hg4⟩;have HS4:=Hd hs4;have Jn:=(bF hg3' (.cells #[.string ⟨#[46]⟩, .string ⟨#[46,46]⟩, .string ⟨#[]⟩, .string ⟨#[97,47,47,98]⟩] 9)).trans hg4;clear hs4 hg4;go_wp2_with fail;go_roundw;case rel=>exact ⟨_,k+1,rfl,by go_num,by omega,by simp only [ByteArray.size_append];first | omega | (show _+1+_≤_;omega),Jn,HS4.o.more (by omega)⟩
         case measure=>simp [intOf];omega
       · have hyb:(y == 7)=false:=(by simpa using hy);clear hy;go_wp2_with fail;refine (xV _ base g (b+2+3 * k+1) HS3.o (by have:=HB.o;omega)).mono ?_;rintro e w4 ⟨z,rfl,hzm,hs4,hg4⟩;have HS4:=Hd hs4;have Jn:=hg3'.trans hg4;clear hs4 hg4;go_wp2_with fail;go_roundw;case rel=>exact ⟨_,k+1,rfl,by go_num,by omega,by simp only [ByteArray.size_append];first | omega | (show _+1+_≤_;omega),Jn,HS4.o.more (by omega)⟩
         case measure=>simp [intOf];omega
   · go_wp2_with fail;refine (jN _ base g (b+2+3 * k) _ hsr.o (by have:=HB.o;omega) (by omega) (by omega)).mono ?_;rintro e w3 ⟨y,rfl,hy0,hy1,hs3,hg3⟩;have HS3:=Hd hs3;have hg3' :=hgr.trans hg3;clear hs3 hg3;by_cases hy:y=7
     · have hyb:(y == 7)=true:=(by simpa using hy);clear hy;go_wp2_with fail;go_ret;exact ⟨_,rfl,by rw [ByteArray.size_append];show _+1≤_;omega,HS3.o.more (by omega),hg3'⟩
     · have hyb:(y == 7)=false:=(by simpa using hy);clear hy;go_wp2_with fail;go_ret;exact ⟨_,rfl,by omega,HS3.o.more (by omega),hg3'⟩
abbrev aV (fd op nu:Int) (tx:ByteArray) (ot:Int):Array Value:=#[.int .i64 fd, .int .i64 op, .int .i64 nu, .string tx, .int .i64 ot]
abbrev pY (fd op nu:Int) (tx:ByteArray) (ot:Int):Value:= .agg (aV fd op nu tx ot)
attribute [local irreducible] qU jQ uV pX
end Go.Proofs.YtollifnnpihfdaaGreatDoor
namespace Go.Proofs.YtollifnnpihfdaaGreatDoor
structure Ctx where
 ph:Int
 p:Nat→Int
 a:Nat→Int
 ex:Int
 ty:Int
 comm:ByteArray
 exe:ByteArray
structure Itm where
 dev:Int
 ino:Int
 uid:Int
 gid:Int
 kind:Int
def Itm.none:Itm:=⟨0,0,0,0,0⟩
def IJ (c:Ctx) (i:Itm) (f:Int):Int:=
 if f≤8 then c.p (f - 1).toNat
 else if f≤12 then c.a (f - 9).toNat
 else if f=15 then c.ex
 else if f=16 then (if 0≤c.ex then 1 else 0)
 else if f=17 then i.ino
 else if f=18 then i.dev
 else if f=19 then i.uid
 else if f=20 then i.gid
 else if f=21 then i.kind
 else c.ty
def Cb (c:Ctx) (f:Int):Bool:=if 15≤f∧f≤21 then decide (c.ph=2) else decide (f≠22∨c.ty≠0)
def Lt (a b:Int):Int:=bits .and .i64 a b
def IK (op a b:Int):Bool:=
 if op=1 then a == b else if op=2 then a != b else if op=3 then decide (a < b) else if op=4 then decide (a≤b)
 else if op=5 then decide (b < a) else if op=6 then decide (b≤a) else if op=7 then Lt a b != 0 else Lt a b == b
def oH (fd op nu:Int) (tx:ByteArray) (ot:Int):Bool:=
 decide (fK fd op nu tx ot 1=0) || (decide (fK fd op nu tx ot 2=0) || (decide (fK fd op nu tx ot 3=0) || (decide (fK fd op nu tx ot 4=0) || decide (fK fd op nu tx ot 5=0))))
def qV (c:Ctx) (fd op nu:Int) (tx:ByteArray) (ot:Int) (i:Itm):Bool:=
 if jQ fd=true then (((if fd=14 then c.comm else c.exe).toList == tx.toList) == decide (op=1)) else IK op (IJ c i fd) (if ot=0 then nu else IJ c i ot)
def JQ (i:Itm):Bool:=decide (i.dev≠0∨i.ino≠0)
def uW (c:Ctx) (L:List Itm) (fd op nu:Int) (tx:ByteArray) (ot:Int):Bool:=
 if oH fd op nu tx ot=false∨Cb c fd=false∨(ot≠0∧Cb c ot=false) then false
 else if pX fd=false∧pX ot=false then qV c fd op nu tx ot Itm.none
 else L.any fun i=>JQ i && qV c fd op nu tx ot i
end Go.Proofs.YtollifnnpihfdaaGreatDoor
