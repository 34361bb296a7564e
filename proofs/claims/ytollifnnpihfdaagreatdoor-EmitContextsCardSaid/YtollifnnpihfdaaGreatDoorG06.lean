import Derived.Test.YtollifnnpihfdaaGreatDoorG02
import Derived.Lib.MapLaws
import Derived.Deep.DrawnRows
set_option maxRecDepth 100000
set_option maxHeartbeats 64000000
set_option linter.all false
namespace Go.Proofs.YtollifnnpihfdaaGreatDoor
open Go.RowKit
theorem lY (w:World) (base g:Nat) (b:Int) (h:aB w base g b) (hb:b≤100000000000000):
   Calls Tryz.prog 108 #[.pointer (some ⟨g,0,none⟩)] w (CQ w base g (b+2) 13):=by
 have H:=Hd h;have HB:=Hd hb;clear h hb;go_in;go_wp2_with fail;refine (bG _ base g b _ H.o (by have:=HB.o;omega) (by omega) (by omega)).mono ?_;rintro e w1 ⟨x,rfl,hx0,hx1,hs,hg⟩;have HS:=Hd hs;have hlt:g < w1.heap.size:=aW hs;clear hs;by_cases hx:x=19
 · have hxb:(x == 19)=true:=(by simpa using hx);clear hx;go_wp2_with fail;refine (fJ _ base g w1.heap.size (b+1) 8 13 _ 9 (0,0) (HS.o.alloc _) (by have:=HB.o;omega) (heap_alloc_new w1 _) (by omega) rfl (by omega) (by omega) rfl).mono ?_;rintro e w2 ⟨y,rfl,hym,hs2,hg2⟩;have HS2:=Hd hs2;clear hs2;go_wp2_with fail;go_ret;exact ⟨_,rfl,hym,HS2.o.more (by omega),(av hg _).trans hg2⟩
 · have hxb:(x == 19)=false:=(by simpa using hx);clear hx;go_wp2_with fail;refine (fJ _ base g w1.heap.size (b+1) 6 13 _ 9 (0,0) (HS.o.alloc _) (by have:=HB.o;omega) (heap_alloc_new w1 _) (by omega) rfl (by omega) (by omega) rfl).mono ?_;rintro e w2 ⟨y,rfl,hym,hs2,hg2⟩;have HS2:=Hd hs2;clear hs2;go_wp2_with fail;go_ret;exact ⟨_,rfl,hym,HS2.o.more (by omega),(av hg _).trans hg2⟩
theorem jX (w:World) (base g:Nat) (b:Int) (h:aB w base g b) (hb:b≤10000000000000):
  Calls Tryz.prog 88 #[.pointer (some ⟨g,0,none⟩)] w (CQ w base g (b+20) 60):=by
 have H:=Hd h;have HB:=Hd hb;clear h hb;go_in;go_wp2_with fail;refine (bG _ base g b _ H.o (by have:=HB.o;omega) (by omega) (by omega)).mono ?_;rintro e w1 ⟨x,rfl,hx0,hx1,hs,hg⟩;have HS:=Hd hs;have hlt1:g < w1.heap.size:=aW hs;clear hs;go_wp2_with fail;all_goals
  refine (aF _ base g w1.heap.size (b+1) 7 0 4 _ 3 (0,0) (HS.o.alloc _) (by have:=HB.o;omega) (heap_alloc_new w1 _) (by omega) rfl (by omega) (by omega) rfl).mono ?_;rintro e w2 ⟨n,rfl,hn0,hn1,hs2,hg2⟩;obtain ⟨n0,rfl⟩:=Int.eq_ofNat_of_zero_le hn0;have HS2:=Hd hs2;have hgf:=(av hg (.cells #[.int .i64 1, .int .i64 1, .int .i64 2, .int .i64 2, .int .i64 3, .int .i64 0, .int .i64 4] 3)).trans hg2;clear hs2 hg2 hg;go_wp2_with fail;go_loopw [3,5] (fun v i wr=>∃ (T:ByteArray) (k:Nat),v= .string T∧i= .int .i64 (k:Int)∧k≤n0∧T.size≤1+14 * k∧w.grownBy wr (some g)∧Hid (aB wr base g (b+2+3 * k))) (fun _ i _=>n0 - (intOf i).toNat);case atStart=>exact ⟨_,0,rfl,rfl,Nat.zero_le _,by decide,hgf,HS2.o.more (by omega)⟩
  case round=>
   obtain ⟨T,k,rfl,rfl,hk,hT,hgr,hsr⟩:=hrel;clear hgf HS2 HS;have hT4:T.size≤100:=(by omega);by_cases hkn:k < n0
   · by_cases hk0:0 < k;all_goals
       go_wp2_with fail;refine (bG _ base g (b+2+3 * k) _ hsr.o (by have:=HB.o;omega) (by omega) (by omega)).mono ?_;rintro e w3 ⟨y,rfl,hy0,hy1,hs3,hg3⟩;have HS3:=Hd hs3;have hg3' :=hgr.trans hg3;have hlt3:g < w3.heap.size:=aW hs3;clear hs3 hg3;by_cases hy:y=7
       · have hyb:(y == 7)=true:=(by simpa using hy);clear hy;go_wp2_with fail;refine (fJ _ base g w3.heap.size (b+2+3 * k+1) 4 13 _ 9 (0,0) (HS3.o.alloc _) (by have:=HB.o;omega) (heap_alloc_new w3 _) (by omega) rfl (by omega) (by omega) rfl).mono ?_;rintro e w4 ⟨z,rfl,hzm,hs4,hg4⟩;have HS4:=Hd hs4;have NL:=(av hg3' (.cells #[.string ⟨#[46]⟩, .string ⟨#[46,46]⟩, .string ⟨#[]⟩, .string ⟨#[97,47,47,98]⟩] 9)).trans hg4;clear hs4 hg4;go_wp2_with fail;go_roundw;case rel=>exact ⟨_,k+1,rfl,by go_num,by omega,by simp only [ByteArray.size_append];first | omega | (show _+1+_≤_;omega),NL,HS4.o.more (by omega)⟩
         case measure=>simp [intOf];omega
       · have hyb:(y == 7)=false:=(by simpa using hy);clear hy;go_wp2_with fail;refine (lY _ base g (b+2+3 * k+1) HS3.o (by have:=HB.o;omega)).mono ?_;rintro e w4 ⟨z,rfl,hzm,hs4,hg4⟩;have HS4:=Hd hs4;have NL:=hg3'.trans hg4;clear hs4 hg4;go_wp2_with fail;go_roundw;case rel=>exact ⟨_,k+1,rfl,by go_num,by omega,by simp only [ByteArray.size_append];first | omega | (show _+1+_≤_;omega),NL,HS4.o.more (by omega)⟩
         case measure=>simp [intOf];omega
   · go_wp2_with fail;refine (bG _ base g (b+2+3 * k) _ hsr.o (by have:=HB.o;omega) (by omega) (by omega)).mono ?_;rintro e w3 ⟨y,rfl,hy0,hy1,hs3,hg3⟩;have HS3:=Hd hs3;have hg3' :=hgr.trans hg3;clear hs3 hg3;by_cases hy:y=7
     · have hyb:(y == 7)=true:=(by simpa using hy);clear hy;go_wp2_with fail;go_ret;exact ⟨_,rfl,by rw [ByteArray.size_append];show _+1≤_;omega,HS3.o.more (by omega),hg3'⟩
     · have hyb:(y == 7)=false:=(by simpa using hy);clear hy;go_wp2_with fail;go_ret;exact ⟨_,rfl,by omega,HS3.o.more (by omega),hg3'⟩
structure Ctx where
 ph:Int
 p:Nat→Int
 a:Nat→Int
 ex:Int
 ty:Int
 comm:ByteArray
 exe:ByteArray
structure Itm where
 dev:Int
 ino:Int
 uid:Int
 gid:Int
 kind:Int
def Itm.none:Itm:=⟨0,0,0,0,0⟩
def yF (c:Ctx) (i:Itm) (f:Int):Int:=
 if f≤8 then c.p (f - 1).toNat
 else if f≤12 then c.a (f - 9).toNat
 else if f=15 then c.ex
 else if f=16 then (if 0≤c.ex then 1 else 0)
 else if f=17 then i.ino
 else if f=18 then i.dev
 else if f=19 then i.uid
 else if f=20 then i.gid
 else if f=21 then i.kind
 else c.ty
def fV (c:Ctx) (f:Int):Bool:=if 15≤f∧f≤21 then decide (c.ph=2) else decide (f≠22∨c.ty≠0)
def Qv (a b:Int):Int:=bits .and .i64 a b
def Gq (op a b:Int):Bool:=
 if op=1 then a == b else if op=2 then a != b else if op=3 then decide (a < b) else if op=4 then decide (a≤b)
 else if op=5 then decide (b < a) else if op=6 then decide (b≤a) else if op=7 then Qv a b != 0 else Qv a b == b
def bU (fd op nu:Int) (tx:ByteArray) (ot:Int):Bool:=
 decide (ai fd op nu tx ot 1=0) || (decide (ai fd op nu tx ot 2=0) || (decide (ai fd op nu tx ot 3=0) || (decide (ai fd op nu tx ot 4=0) || decide (ai fd op nu tx ot 5=0))))
def dw (c:Ctx) (fd op nu:Int) (tx:ByteArray) (ot:Int) (i:Itm):Bool:=
 if bI fd=true then (((if fd=14 then c.comm else c.exe).toList == tx.toList) == decide (op=1)) else Gq op (yF c i fd) (if ot=0 then nu else yF c i ot)
def fO (i:Itm):Bool:=decide (i.dev≠0∨i.ino≠0)
def iC (c:Ctx) (L:List Itm) (fd op nu:Int) (tx:ByteArray) (ot:Int):Bool:=
 if bU fd op nu tx ot=false∨fV c fd=false∨(ot≠0∧fV c ot=false) then false
 else if dA fd=false∧dA ot=false then dw c fd op nu tx ot Itm.none
 else L.any fun i=>fO i && dw c fd op nu tx ot i
def bC (c:Ctx) (fd op nu:Int) (tx:ByteArray) (ot:Int) (i:Itm):Bool:=
 if bI fd=false∧(fV c fd=false∨(ot≠0∧fV c ot=false)) then false else dw c fd op nu tx ot i
def jZ (c:Ctx) (L:List Itm) (fd op nu:Int) (tx:ByteArray) (ot:Int):Bool:=
 if bU fd op nu tx ot=false then false
 else if dA fd=false∧dA ot=false then bC c fd op nu tx ot Itm.none
 else L.any fun i=>fO i && bC c fd op nu tx ot i
theorem og {fd op nu:Int} {tx:ByteArray} {ot:Int} (h:bU fd op nu tx ot=true):∃ l,ai fd op nu tx ot l=0:=by
 unfold bU at h;simp only [Bool.or_eq_true,decide_eq_true_eq] at h;rcases h with h | h | h | h | h
 · exact ⟨_,h⟩
 · exact ⟨_,h⟩
 · exact ⟨_,h⟩
 · exact ⟨_,h⟩
 · exact ⟨_,h⟩
theorem CW {c:Ctx} {f:Int} (h:bI f=true):fV c f=true:=by
 unfold bI at h;unfold fV;simp at h;rw [if_neg (by omega)];simp;omega
theorem za (c:Ctx) (L:List Itm) (fd op nu:Int) (tx:ByteArray) (ot:Int):jZ c L fd op nu tx ot=iC c L fd op nu tx ot:=by
 cases hs:bU fd op nu tx ot
 · unfold jZ iC;rw [if_pos hs,if_pos (.inl hs)]
 · obtain ⟨l,hl⟩:=og hs;obtain ⟨h1,h2,h3,h4,h5,h6,h7⟩:=mH hl;have ht:bI fd=true→ot=0:=fun h=>by
     rcases h2 with h2 | h2
     · exact h2
     · have:=jk h2.2.1;rw [h] at this;cases this
   have hns:¬ bU fd op nu tx ot=false:=(by rw [hs];decide);have eP:jZ c L fd op nu tx ot=if dA fd=false∧dA ot=false then bC c fd op nu tx ot Itm.none else L.any fun i=>fO i && bC c fd op nu tx ot i:=(by unfold jZ;rw [if_neg hns]);by_cases hbad:fV c fd=false∨(ot≠0∧fV c ot=false)
   · have htx:bI fd=false:=by
       cases hx:bI fd
       · rfl
       · rcases hbad with hb | hb
         · rw [CW hx] at hb;cases hb
         · exact absurd (ht hx) hb.1
     have hp:∀ i,bC c fd op nu tx ot i=false:=fun i=>by unfold bC;rw [if_pos ⟨htx,hbad⟩]
     have eF:iC c L fd op nu tx ot=false:=(by unfold iC;rw [if_pos (.inr hbad)]);rw [eP,eF];simp [hp]
   · have hp:∀ i,bC c fd op nu tx ot i=dw c fd op nu tx ot i:=fun i=>by unfold bC;rw [if_neg (fun h=>hbad h.2)]
     have eF:iC c L fd op nu tx ot=if dA fd=false∧dA ot=false then dw c fd op nu tx ot Itm.none else L.any fun i=>fO i && dw c fd op nu tx ot i:=by
       unfold iC;rw [if_neg];rintro (h | h)
       · exact hns h
       · exact hbad h
     rw [eP,eF];simp [hp]
open Go.ChangeShapes Go.WideShapes Go.RowKit
def cz (w:World) (B:Nat) (A:Option Addr) (ss:List ByteArray):Prop:=∀ k (hk:k < ss.length),∃ ad:Addr,A=some ad∧ad.block < B∧w.cell? (ad.add k)=some (.string (ss[k]'hk))
theorem oz (a:Addr) (n:Nat):(a.add n).block=a.block:=by unfold Addr.add;split <;> rfl
theorem cz.keep {w w' :World} {B B' :Nat} {A:Option Addr} {ss:List ByteArray} (h:cz w B A ss) (hb:Below B' w w') (hB:B≤B'):cz w' B A ss:=fun k hk=>by
 obtain ⟨ad,e,hl,hc⟩:=h k hk;exact ⟨ad,e,hl,(hb.cell (by rw [oz];omega)).trans hc⟩
theorem cz.more {w:World} {B B' :Nat} {A:Option Addr} {ss:List ByteArray} (h:cz w B A ss) (hB:B≤B'):cz w B' A ss:=fun k hk=>by
 obtain ⟨ad,e,hl,hc⟩:=h k hk;exact ⟨ad,e,by omega,hc⟩
theorem cz.nil {w:World} {B:Nat} {A:Option Addr} :cz w B A []:=fun k hk=>by simp at hk
theorem Tryz.JR:(Tryz.prog.info? 9).map (fun i=>(i.zero,i.size,i.bytes))=some (some (.string ⟨#[]⟩),1,16):=by kernel_rfl
def bF (w:World) (base:Nat) (v:Value) (L:List ByteArray):Prop:=w.ownsRow base 9 1 v L.length (L.map Value.string)
theorem bF.o {w:World} {base:Nat} {v:Value} {L:List ByteArray} (h:bF w base v L):w.ownsRow base 9 1 v L.length (L.map Value.string):=h
theorem bF.nil (w:World) (base:Nat):bF w base (.slice none 0 0) []:=World.ownsRow_nil _ _ _ _
theorem bF.alloc {w:World} {base:Nat} {v:Value} {L:List ByteArray} (h:bF w base v L) (o:Obj):bF (w.alloc o) base v L:=World.ownsRow.alloc h o
theorem bF.below {w w' :World} {base:Nat} {v:Value} {L:List ByteArray} (h:bF w base v L) (hb:Below w.heap.size w w'):bF w' base v L:=
 World.ownsRow.kept (row:=none) h ⟨hb.os,hb.tape,hb.output,hb.size,fun i hi _=>hb.block i hi⟩ (by
  cases hv:v.ownBlock with
  | none=>exact .inl rfl
  | some k=>exact .inr (by simp))
theorem bF.one (w:World) {base:Nat} (hb:base≤w.heap.size) (x:ByteArray):bF (w.alloc (.cells #[.string x] 9)) base (.slice (some ⟨w.heap.size,0,none⟩) 1 1) [x]:=
 World.ownsRow_lit w #[.string x] 1 hb (by unfold maxLen;omega) rfl
def N8:ByteArray:=⟨#[61,33,60,62,38]⟩
theorem wF (s:ByteArray) (j:Nat) (b:UInt8) (h:s.data.toList[j]? =some b):s.get! j=b:=by
 obtain ⟨hj,e⟩:=List.getElem?_eq_some_iff.1 h;have hj' :j < s.data.size:=by simpa using hj
 show s.data[j]! =b;rw [getElem!_pos s.data j hj'];simpa using e
theorem GD (s:ByteArray):s.data.toList.length=s.size:=Array.length_toList
structure HiR (s:ByteArray) (i:Nat) (r k:Nat):Prop where
 lo:128≤r
 top:r≤1114111
 ok:r < 55296∨57344≤r
 pos:1≤k
 fit:i+k≤s.size
 all:∀ j b,i≤j→j < i+k→s.data.toList[j]? =some b→128≤b.toNat
theorem GG (s:ByteArray) (i:Nat) (h:i < s.size) (hx:128≤(s[i]).toNat):HiR s i (Utf8.decode s i).1 (Utf8.decode s i).2:=by
 have h0:(s.get! i).toNat=(s[i]).toNat:=by
   rw [wF s i s[i]];rw [List.getElem?_eq_getElem (by rw [GD];exact h)];rfl
 have key:∀ j b,s.data.toList[j]? =some b→b.toNat=(s.get! j).toNat:=fun j b hb=>by rw [wF s j b hb]
 rw [Lib.decode_at];have t0:=(s.get! i).toNat_lt;generalize hn:s.size - i=n;generalize h1:(s.get! (i+1)).toNat=b1;generalize h2:(s.get! (i+2)).toNat=b2;generalize h3:(s.get! (i+3)).toNat=b3;rw [h0] at t0 ⊢;have hall:∀ k,(1 < k→128≤b1)→(2 < k→128≤b2)→(3 < k→128≤b3)→k≤4→∀ j b,i≤j→j < i+k→s.data.toList[j]? =some b→128≤b.toNat:=by
   intro k g1 g2 g3 g4 j b hj1 hj2 hb;rw [key j b hb];have hc:j=i∨j=i+1∨j=i+2∨j=i+3:=(by omega);rcases hc with rfl | rfl | rfl | rfl
   · omega
   · have:=g1 (by omega);omega
   · have:=g2 (by omega);omega
   · have:=g3 (by omega);omega
 rcases Lib.decodeN_shape n (s[i]).toNat b1 b2 b3 with ⟨a,e⟩ | ⟨a1,a2,a3,a4,e⟩ | ⟨a1,a2,a3,a4,a5,a6,e⟩ | ⟨a1,a2,a3,a4,a5,a6,a7,e⟩ | e
 · omega
 · rw [e];exact ⟨a4,by show _≤_;omega,by show _∨_;omega,by show 1≤2;omega,by show i+2≤_;omega,hall 2 (by omega) (by omega) (by omega) (by omega)⟩
 · rw [e];exact ⟨by show _≤_;omega,by show _≤_;omega,by show _∨_;omega,by show 1≤3;omega,by show i+3≤_;omega,hall 3 (by omega) (by omega) (by omega) (by omega)⟩
 · rw [e];exact ⟨by show _≤_;omega,by show _≤_;omega,by show _∨_;omega,by show 1≤4;omega,by show i+4≤_;omega,hall 4 (by omega) (by omega) (by omega) (by omega)⟩
 · rw [e];exact ⟨by decide,by decide,by decide,by decide,by show i+1≤_;omega,hall 1 (by omega) (by omega) (by omega) (by omega)⟩
theorem JW (r:Nat) (h1:128≤r) (h2:r≤1114111) (h3:r < 55296∨57344≤r):∃ (R:ByteArray) (k:Nat) (c:UInt8),Utf8.encode (r:Int)=R∧R.size=k+1∧1≤k∧k≤3∧128≤c.toNat∧∃ h:k < R.size,R[k]=c:=by
 have hv:Utf8.valid (r:Int)=true:=by
   unfold Utf8.valid;simp;omega
 have hm:∀ n:Nat,n < 64→128≤(UInt8.ofNat (0x80+n)).toNat:=fun n hn=>by
   rw [UInt8.toNat_ofNat'];omega
 by_cases c1:r < 2048
 · have e:Utf8.encode (r:Int)=⟨#[UInt8.ofNat (0xC0+r / 64),UInt8.ofNat (0x80+r % 64)]⟩:=by
     unfold Utf8.encode;rw [hv];simp only [if_true,Int.toNat_natCast];rw [if_neg (by omega),if_pos (by omega)]
   exact ⟨_,1,_,e,rfl,by decide,by decide,hm (r % 64) (by omega),by show 1 < 2;decide,rfl⟩
 · by_cases c2:r < 65536
   · have e:Utf8.encode (r:Int)=⟨#[UInt8.ofNat (0xE0+r / 4096),UInt8.ofNat (0x80+r / 64 % 64),UInt8.ofNat (0x80+r % 64)]⟩:=by
      unfold Utf8.encode;rw [hv];simp only [if_true,Int.toNat_natCast];rw [if_neg (by omega),if_neg (by omega),if_pos (by omega)]
     exact ⟨_,2,_,e,rfl,by decide,by decide,hm (r % 64) (by omega),by show 2 < 3;decide,rfl⟩
   · have e:Utf8.encode (r:Int)=⟨#[UInt8.ofNat (0xF0+r / 262144),UInt8.ofNat (0x80+r / 4096 % 64),UInt8.ofNat (0x80+r / 64 % 64),UInt8.ofNat (0x80+r % 64)]⟩:=by
      unfold Utf8.encode;rw [hv];simp only [if_true,Int.toNat_natCast];rw [if_neg (by omega),if_neg (by omega),if_neg (by omega)]
     exact ⟨_,3,_,e,rfl,by decide,by decide,hm (r % 64) (by omega),by show 3 < 4;decide,rfl⟩
theorem Dr:N8.data.toList= [61,33,60,62,38]:=rfl
theorem zw:∀ (j:Nat) b,N8.data.toList[j]? =some b→b.toNat < 128:=by
 intro j b hb;have hm:=List.mem_of_getElem? hb;rw [Dr] at hm;simp at hm;rcases hm with rfl | rfl | rfl | rfl | rfl <;> decide
theorem QJ {c:UInt8} (h:128≤c.toNat):N8.data.toList.contains c=false:=by
 rw [← Bool.not_eq_true];intro hc;rw [List.contains_iff_mem] at hc;obtain ⟨j,hj⟩:=List.mem_iff_getElem?.1 hc;have:=zw j c hj;omega
theorem Fy {c:UInt8} (h:128≤c.toNat):∀ l:List UInt8,(∀ b∈l,b.toNat < 128)→Lib.indexByte l c= -1
 | [],_=>rfl
 | b :: l,hl=>by
  have hb:(b == c)=false:=by
   rw [beq_eq_false_iff_ne];intro e;have:=hl b List.mem_cons_self;rw [e] at this;omega
  have ih:=Fy h l (fun x hx=>hl x (List.mem_cons_of_mem _ hx));simp [Lib.indexByte,hb,ih]
theorem oG (r:Int) (w:World):Calls Tryz.prog 301 #[.int .i32 r] w fun e w' =>e= .returned (.bool (Lib.validRune r))∧w=w' :=
 (Tryz.utf8_ValidRune r w).mono fun _ _ h=>⟨h.1,h.2.symm⟩
theorem Sz (s:ByteArray) (c:UInt8) (w:World):Calls Tryz.prog 300 #[.string s, .int .u8 (c.toNat:Int)] w fun e w' =>e= .returned (.int .i64 (Lib.indexByte s.data.toList c))∧w=w' :=
 (Tryz.strings_IndexByte s (c.toNat:Int) w).mono fun _ _ h=>⟨by rw [h.1];simp,h.2.symm⟩
theorem JX (n:Int) (w:World):Calls Tryz.prog 293 #[.int .i64 n] w fun e w' =>e= .returned (.bool (decide (8 < n)))∧w=w' :=by
 go_in
 go_wp2
 go_ret;exact ⟨rfl,rfl⟩
structure CJ (s:ByteArray) (w wx:World) (i:Nat):Prop where
 it:wx.heap[w.heap.size]? =some (.stringIter s i)
 lt:Below w.heap.size w wx
theorem CJ.start (s:ByteArray) (w:World):CJ s w (w.iter s 0) 0:=⟨World.iter_heap w s 0,(Below.refl _ _).alloc (Nat.le_refl _) _⟩
theorem CJ.move {s:ByteArray} {w wx:World} {i:Nat} (h:CJ s w wx i) (j:Nat):CJ s w (wx.iterAt w.heap.size s j) j:=
 ⟨Lib.iterAt_heap wx _ s i j h.it,h.lt.trans ⟨rfl,rfl,rfl,by simp [World.iterAt],fun k hk=>by simp [World.iterAt,Array.getElem?_setIfInBounds_ne (show w.heap.size≠k by omega)]⟩⟩
theorem CJ.below {s:ByteArray} {w wx wy:World} {i:Nat} (h:CJ s w wx i) (hb:Below wx.heap.size wx wy):CJ s w wy i:=
 ⟨(hb.block _ (Array.getElem?_eq_some_iff.1 h.it).1).trans h.it,h.lt.trans (hb.mono h.lt.size)⟩
theorem mV (w:World) (base:Nat) (ty:TypeId) (v:Value) (L:List ByteArray) (B:Nat) (A:Option Addr) (n c:Nat) (ss:List ByteArray) (hn:n=ss.length) (hown:bF w base v L) (hr:cz w B A ss) (hlen:L.length+ss.length≤1000000) (hbase:base≤w.heap.size):
   ∃ v' w',(Builtin.append_ #[49,49] ty #[v, .slice A n c]).run Tryz.prog w= .ok v' w' ∧bF w' base v' (L ++ ss)∧w.grownBy w' v.ownBlock∧(v'.ownBlock=v.ownBlock∨v'.ownBlock=some w.heap.size):=by
 subst hn;obtain ⟨i0,hi,hz0,hz1,hz2⟩:=info_parts Tryz.JR;have h:=hown.o;rcases A with _ | ad
 · have hss:ss= []:=by
     cases ss with
     | nil=>rfl
     | cons s r=>obtain ⟨ad,e,_⟩:=hr 0 (by simp);cases e
   subst hss;refine ⟨v,w,?_,by simpa using hown,World.grownBy.refl w _, .inl rfl⟩;rcases h.2 with ⟨rfl,_⟩ | ⟨g,cap,cur,rfl,_,_,hnc,_⟩
   · simp [Builtin.append_,run_underlying Tryz.underlying49,sizeOf,typeInfo,hi,Builtin.lenOf,Builtin.firstCells]
   · simp [Builtin.append_,run_underlying Tryz.underlying49,sizeOf,typeInfo,hi,Builtin.lenOf,Builtin.firstCells,hnc,storeCells]
 · obtain ⟨v',w',hrun,h2,h3,_,h5⟩:=run_append_own_at (P:=Tryz.prog) w base 49 ty 9 i0 _ 1 16 Tryz.underlying49 hi hz0 hz1 hz2 rfl (by omega) v L.length _ h ad ss.length c (ss.map Value.string) (by simp) (fun j u hu=>by
     have hj:j < ss.length:=(by have:=(List.getElem?_eq_some_iff.1 hu).1;simpa using this);obtain ⟨ad',e,_,hc⟩:=hr j hj;cases e;rw [hc, ← hu,List.getElem?_map,List.getElem?_eq_getElem hj];rfl) (by
     intro u hu;obtain ⟨s,_,rfl⟩:=List.mem_map.1 hu;rfl) (by unfold maxLen;omega) (by omega) hbase
   refine ⟨v',w',hrun,?_,h3,h5⟩;show w'.ownsRow base 9 1 v' (L ++ ss).length ((L ++ ss).map Value.string);simpa using h2
theorem jD {o:Oper} {a:Act} {w:World} {K:Act→World→Prop} {Q:Exit→Act→World→Prop} (s x:Operand) (ho:o.op= .call { callee:= .builtin .append,args:=#[s,x],argTypes:=#[49,49] })
  (base:Nat) (v:Value) (L:List ByteArray) (hs:a.eval s=v) (hown:bF w base v L) (B:Nat) (A:Option Addr) (n c:Nat) (ss:List ByteArray) (hx:a.eval x= .slice A n c) (hn:n=ss.length) (hr:cz w B A ss) (hlen:L.length+ss.length≤1000000) (hbase:base≤w.heap.size)
  (h:∀ v' w',bF w' base v' (L ++ ss)→w.grownBy w' v.ownBlock→(v'.ownBlock=v.ownBlock∨v'.ownBlock=some w.heap.size)→K (a.put o.dst v') w'):o.wp Tryz.prog a w K Q:=by
 obtain ⟨v',w',hrun,h2,h3,h4⟩:=mV w base o.type v L B A n c ss hn hown hr hlen hbase;unfold Oper.wp execOp;simp only [ho,resolve,invoke,builtin,Sem.run_bind,Sem.run_pure,Result.andThen_ok,List.map_toArray,List.map_cons,List.map_nil,hs,hx,hrun];exact h v' w' h2 h3 h4
theorem dN {ops:Array Oper} {rest:List Oper} {o:Oper} {a:Act} {w:World} {Q:Exit→Act→World→Prop} (hgd:o.guard=none) (s x:Operand) (ho:o.op= .call { callee:= .builtin .append,args:=#[s,x],argTypes:=#[49,49] })
  (base:Nat) (v:Value) (L:List ByteArray) (hs:a.eval s=v) (hown:bF w base v L) (B:Nat) (A:Option Addr) (n c:Nat) (ss:List ByteArray) (hx:a.eval x= .slice A n c) (hn:n=ss.length) (hr:cz w B A ss) (hlen:L.length+ss.length≤1000000) (hbase:base≤w.heap.size)
  (h:∀ v' w',bF w' base v' (L ++ ss)→w.grownBy w' v.ownBlock→(v'.ownBlock=v.ownBlock∨v'.ownBlock=some w.heap.size)→wpList Tryz.prog ops Q rest (a.put o.dst v') w'):wpList Tryz.prog ops Q (o :: rest) a w:=
 wpList_plain hgd fun _ hK=>jD s x ho base v L hs hown B A n c ss hx hn hr hlen hbase fun v' w' h2 h3 h4=>hK _ _ (h v' w' h2 h3 h4)
theorem fq {ops:Array Oper} {o:Oper} {a:Act} {w:World} {K:Act→World→Prop} {Q:Exit→Act→World→Prop} {E:Prop} (hgd:o.guard=none) (s x:Operand) (ho:o.op= .call { callee:= .builtin .append,args:=#[s,x],argTypes:=#[49,49] })
  (base:Nat) (v:Value) (L:List ByteArray) (hs:a.eval s=v) (hown:bF w base v L) (B:Nat) (A:Option Addr) (n c:Nat) (ss:List ByteArray) (hx:a.eval x= .slice A n c) (hn:n=ss.length) (hr:cz w B A ss) (hlen:L.length+ss.length≤1000000) (hbase:base≤w.heap.size)
  (h:∀ v' w',bF w' base v' (L ++ ss)→w.grownBy w' v.ownBlock→(v'.ownBlock=v.ownBlock∨v'.ownBlock=some w.heap.size)→K (a.put o.dst v') w'):
  if Region.wanted o (yielded ops a.tmps)=true then Oper.wp Tryz.prog o a w K Q else E:=by
 have hw:Region.wanted o (yielded ops a.tmps)=true:=by simp [Region.wanted,hgd]
 rw [if_pos hw];exact jD s x ho base v L hs hown B A n c ss hx hn hr hlen hbase h
theorem bF.ge {w:World} {base:Nat} {v:Value} {L:List ByteArray} (h:bF w base v L):∀ r,v.ownBlock=some r→base≤r:=fun r hr=>(World.ownsRow.lt h r hr).1
theorem bF.strs {w:World} {base:Nat} {v:Value} {L:List ByteArray} (h:bF w base v L):∃ A c,v= .slice A L.length c∧cz w w.heap.size A L:=by
 rcases Joins.ownsRow_forms h.o with ⟨rfl,h0⟩ | ⟨g,cap,rfl⟩
 · have:L= []:=List.eq_nil_of_length_eq_zero h0;subst this;exact ⟨none,0,rfl,cz.nil⟩
 · refine ⟨_,cap,rfl,fun k hk=>⟨_,rfl,(h.o.lt g rfl).2,?_⟩⟩;exact World.ownsRow.cells h (g:=g) rfl k _ (by rw [List.getElem?_map,List.getElem?_eq_getElem hk];rfl)
theorem zx (w:World) (x:ByteArray) (t:TypeId):cz (w.alloc (.cells #[.string x] t)) (w.heap.size+1) (some ⟨w.heap.size,0,none⟩) [x]:=fun k hk=>by
 have hk:k=0:=by simp at hk;omega
 subst hk;exact ⟨_,rfl,by show w.heap.size < _;omega,by show World.cell? _ ⟨w.heap.size,0,none⟩=_;rw [(Blk.new w #[.string x] t).cell];rfl⟩
theorem bF.oK {w w1 wr w2:World} {v v' :Value} {L L' :List ByteArray} (ho:bF w1 w.heap.size v L) (hb:Below w.heap.size w wr) {o:Obj} (hw:w1=wr.alloc o) (hg:w1.grownBy w2 v.ownBlock) (_h:bF w2 w.heap.size v' L'):Below w.heap.size w w2:=by
 subst hw;have h1:=hb.alloc hb.size o;exact h1.grown hg (by have:=hb.size;simp;omega) (fun r hr=>ho.ge r hr)
structure nI where
 name:ByteArray
 nums:Nat
 FP:Nat
 least:Nat
 most:Nat
def qI:List nI:= [
 ⟨⟨#[102,111,114,107]⟩,0,0,0,0⟩,
 ⟨⟨#[101,120,101,99,118,101]⟩,0,1,0,4⟩,
 ⟨⟨#[101,120,105,116]⟩,1,0,0,0⟩,
 ⟨⟨#[115,101,116,117,105,100]⟩,1,0,0,0⟩,
 ⟨⟨#[115,101,116,103,105,100]⟩,1,0,0,0⟩,
 ⟨⟨#[108,111,103,105,110]⟩,1,0,0,0⟩,
 ⟨⟨#[111,112,101,110]⟩,2,1,0,0⟩,
 ⟨⟨#[99,108,111,115,101]⟩,1,0,0,0⟩,
 ⟨⟨#[108,105,110,107]⟩,0,2,0,0⟩,
 ⟨⟨#[115,121,109,108,105,110,107]⟩,0,1,1,1⟩,
 ⟨⟨#[117,110,108,105,110,107]⟩,0,1,0,0⟩,
 ⟨⟨#[109,107,100,105,114]⟩,1,1,0,0⟩,
 ⟨⟨#[114,109,100,105,114]⟩,0,1,0,0⟩,
 ⟨⟨#[114,101,110,97,109,101]⟩,0,2,0,0⟩,
 ⟨⟨#[99,104,109,111,100]⟩,1,1,0,0⟩,
 ⟨⟨#[99,104,111,119,110]⟩,2,1,0,0⟩,
 ⟨⟨#[99,104,100,105,114]⟩,0,1,0,0⟩,
 ⟨⟨#[109,111,117,110,116]⟩,1,1,0,0⟩,
 ⟨⟨#[117,109,111,117,110,116]⟩,1,0,0,0⟩,
 ⟨⟨#[99,111,110,110,101,99,116]⟩,1,0,1,1⟩,
 ⟨⟨#[107,105,108,108]⟩,2,0,0,0⟩,
 ⟨⟨#[116,114,117,110,99,97,116,101]⟩,1,1,0,0⟩]
def nI.cells (k:IntKind) (r:nI):List Value:= [.string r.name, .int k r.nums, .int k r.FP, .int k r.least, .int k r.most]
def nI.val (k:IntKind) (r:nI):Value:= .agg #[.string r.name, .int k r.nums, .int k r.FP, .int k r.least, .int k r.most]
def jw (n:Nat):nI:=qI.getD n ⟨⟨#[]⟩,0,0,0,0⟩
def jF (z:Int):nI:=if z < 0 then ⟨⟨#[]⟩,0,0,0,0⟩ else jw z.toNat
def dV (k:IntKind):Array Value:=((qI.map (nI.cells k)).flatten).toArray
theorem tV (k:IntKind) (n:Nat) (h:n < 22):(dV k)[n * 5]? =some (.string (jw n).name)∧(dV k)[n * 5+1]? =some (.int k (jw n).nums)∧(dV k)[n * 5+2]? =some (.int k (jw n).FP)∧(dV k)[n * 5+3]? =some (.int k (jw n).least)∧(dV k)[n * 5+4]? =some (.int k (jw n).most):=by
 have H:∀ m:Fin 22,(dV k)[m.val * 5]? =some (.string (jw m).name)∧(dV k)[m.val * 5+1]? =some (.int k (jw m).nums)∧(dV k)[m.val * 5+2]? =some (.int k (jw m).FP)∧(dV k)[m.val * 5+3]? =some (.int k (jw m).least)∧(dV k)[m.val * 5+4]? =some (.int k (jw m).most):=by
  intro m
  match m with
  | ⟨0,_⟩=>exact ⟨rfl,rfl,rfl,rfl,rfl⟩
  | ⟨1,_⟩=>exact ⟨rfl,rfl,rfl,rfl,rfl⟩
  | ⟨2,_⟩=>exact ⟨rfl,rfl,rfl,rfl,rfl⟩
  | ⟨3,_⟩=>exact ⟨rfl,rfl,rfl,rfl,rfl⟩
  | ⟨4,_⟩=>exact ⟨rfl,rfl,rfl,rfl,rfl⟩
  | ⟨5,_⟩=>exact ⟨rfl,rfl,rfl,rfl,rfl⟩
  | ⟨6,_⟩=>exact ⟨rfl,rfl,rfl,rfl,rfl⟩
  | ⟨7,_⟩=>exact ⟨rfl,rfl,rfl,rfl,rfl⟩
  | ⟨8,_⟩=>exact ⟨rfl,rfl,rfl,rfl,rfl⟩
  | ⟨9,_⟩=>exact ⟨rfl,rfl,rfl,rfl,rfl⟩
  | ⟨10,_⟩=>exact ⟨rfl,rfl,rfl,rfl,rfl⟩
  | ⟨11,_⟩=>exact ⟨rfl,rfl,rfl,rfl,rfl⟩
  | ⟨12,_⟩=>exact ⟨rfl,rfl,rfl,rfl,rfl⟩
  | ⟨13,_⟩=>exact ⟨rfl,rfl,rfl,rfl,rfl⟩
  | ⟨14,_⟩=>exact ⟨rfl,rfl,rfl,rfl,rfl⟩
  | ⟨15,_⟩=>exact ⟨rfl,rfl,rfl,rfl,rfl⟩
  | ⟨16,_⟩=>exact ⟨rfl,rfl,rfl,rfl,rfl⟩
  | ⟨17,_⟩=>exact ⟨rfl,rfl,rfl,rfl,rfl⟩
  | ⟨18,_⟩=>exact ⟨rfl,rfl,rfl,rfl,rfl⟩
  | ⟨19,_⟩=>exact ⟨rfl,rfl,rfl,rfl,rfl⟩
  | ⟨20,_⟩=>exact ⟨rfl,rfl,rfl,rfl,rfl⟩
  | ⟨21,_⟩=>exact ⟨rfl,rfl,rfl,rfl,rfl⟩
  | ⟨m+22,h⟩=>omega
 exact H ⟨n,h⟩
def Calls10 (w:World):Prop:=yO w 2 (dV .u8)
theorem Calls10.below {B:Nat} {w w' :World} (h:Calls10 w) (hb:Below B w w') (hB:w.heap.size≤B):Calls10 w' :=yO.below h hb hB
def gG (z:Int):Bool:=decide (0≤z) && decide (z < 22)
attribute [local irreducible] jw dV
theorem Ba (z:Int) (w:World):Calls Tryz.prog 155 #[.int .i64 z] w fun e w' =>e= .returned (.bool (gG z))∧w=w' :=by
 by_cases h0:0≤z
 · by_cases h1:z < 22
   · have H:=Hd (show gG z=true by unfold gG;simp [h0,h1]);go_in
     go_wp2
     go_ret;exact ⟨by rw [H.o];rfl,rfl⟩
   · have H:=Hd (show gG z=false by unfold gG;simp;omega);go_in
     go_wp2
     go_ret;exact ⟨by rw [H.o];rfl,rfl⟩
 · have H:=Hd (show gG z=false by unfold gG;simp;omega);go_in
   go_wp2
   go_ret;exact ⟨by rw [H.o];rfl,rfl⟩
theorem Pm (n:Nat) (hn:n < 22) (w:World) (hc:Calls10 w):Calls Tryz.prog 92 #[.int .i64 (n:Int)] w fun e w' =>e= .returned (.string (jw n).name)∧w=w' :=by
 have hx:gG (n:Int)=true:=by unfold gG;simp;omega
 have HX:=Hd hx;have c0:=(hc.cell (n * 5)).trans (tV .u8 n hn).1;clear hc hx;go_in;go_wp2_with fail;refine (Ba _ _).mono ?_;rintro e w' ⟨rfl,rfl⟩;rw [HX.o];go_wp2_with fail;go_ret;exact ⟨rfl,rfl⟩
theorem Bb (z:Int) (hz:z < 0∨22≤z) (w:World):Calls Tryz.prog 92 #[.int .i64 z] w fun e w' =>e= .returned (.string ⟨#[]⟩)∧w=w' :=by
 have HX:=Hd (show gG z=false by unfold gG;simp;omega);clear hz;go_in;go_wp2_with fail;refine (Ba _ _).mono ?_;rintro e w' ⟨rfl,rfl⟩;rw [HX.o];go_wp2_with fail;go_ret;exact ⟨rfl,rfl⟩
end Go.Proofs.YtollifnnpihfdaaGreatDoor
