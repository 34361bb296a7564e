import Derived.Lib.AtoiAllCases
import Derived.Test.YtollifnnpihfdaaGreatDoorG06
import Derived.RangeFuncNested
import Derived.RangeFuncBound
import Derived.Test.YtollifnnpihfdaaGreatDoorG07
set_option maxRecDepth 100000
set_option maxHeartbeats 64000000
set_option linter.all false
namespace Go.Proofs.YtollifnnpihfdaaGreatDoor
open Go.RowKit
def Left (s:ByteArray) (i:Nat) (acc:List UInt8):Prop:=rM s.data.toList=(rM (s.data.toList.drop i)).map (acc ++ ·)
theorem Dc (s:ByteArray) (i:Nat) (h0:i < s.size) (h:i+1 < s.size):s.data.toList.drop i=s[i] :: s[i+1] :: s.data.toList.drop (i+2):=by
 rw [List.drop_eq_getElem_cons (by simpa using h0),List.drop_eq_getElem_cons (by simpa using h)];rfl
theorem Left.stop {s:ByteArray} {i:Nat} {acc:List UInt8} (h:Left s i acc) (h0:i < s.size) (hj:i+1 < s.size) (ha:nZ s[i] < 0∨nZ s[i+1] < 0):rM s.data.toList=none:=by
 unfold Left at h;rw [h,Dc s i h0 hj,rM,if_pos ha];rfl
def I64 (n:Int):Prop:= -9223372036854775808≤n∧n≤9223372036854775807
structure Tst where
 fd:Int
 op:Int
 nu:Int
 tx:ByteArray
 ot:Int
structure Rul where
 li:Int
 ac:Int
 ca:Nat
 ts:List Tst
 wa:Int
 pa:ByteArray
 pe:Int
 ke:ByteArray
def Tst.chk (t:Tst) (l:Int):Int:=ai t.fd t.op t.nu t.tx t.ot l
def Tst.txt (t:Tst):ByteArray:=JE t.fd t.op t.nu t.tx t.ot
def Tst.any (t:Tst):Int:=MZ t.fd t.op t.nu t.tx t.ot
def aZ:List Tst→Int→Int
 | [],_=>0
 | t :: ts,l=>if t.chk l=0 then aZ ts l else t.chk l
def cB (li:Int):Bool:=decide (li=2∨li=3)
def dC (wa pe li:Int) (pa:ByteArray):Bool:=
 if wa=0 then decide (pa.size=0∧pe=0)
 else if wa=1∨wa=2 then decide (li=3) && dL pa && decide (pa.size≤128∧1≤pe∧pe≤15)
 else false
def bH (r:Rul):Int:=
 if r.li < 1∨5 < r.li then 130
 else if r.ac≠1∧r.ac≠2 then 131
 else if cB r.li=true∧(r.ca=0∨4294967296≤r.ca) then 132
 else if cB r.li=false∧r.ca≠0 then 132
 else if 8 < r.ts.length then 133
 else if aZ r.ts r.li≠0 then aZ r.ts r.li
 else if dC r.wa r.pe r.li r.pa=false then 134
 else if 31 < r.ke.size then 135
 else 0
def Sv:List ByteArray:= [⟨#[]⟩,⟨#[97,108,119,97,121,115]⟩,⟨#[110,101,118,101,114]⟩]
def NW:List ByteArray:= [⟨#[]⟩,⟨#[116,97,115,107]⟩,⟨#[101,110,116,114,121]⟩,⟨#[101,120,105,116]⟩,⟨#[117,115,101,114]⟩,⟨#[101,120,99,108,117,100,101]⟩]
def Sw (k:Nat):ByteArray:=Sv.getD k ⟨#[]⟩
def NY (k:Nat):ByteArray:=NW.getD k ⟨#[]⟩
def JS (n:Int):ByteArray:=⟨((if n.toNat.testBit 2 then [(114:UInt8)] else []) ++ (if n.toNat.testBit 1 then [119] else []) ++ (if n.toNat.testBit 0 then [120] else []) ++ (if n.toNat.testBit 3 then [97] else [])).toArray⟩
def fA:ByteArray:=⟨#[45,97]⟩
def fS:ByteArray:=⟨#[45,83]⟩
def fF:ByteArray:=⟨#[45,70]⟩
def fC:ByteArray:=⟨#[45,67]⟩
def fK:ByteArray:=⟨#[45,107]⟩
def NZ:ByteArray:=⟨#[112,97,116,104,61]⟩
def Sy:ByteArray:=⟨#[100,105,114,61]⟩
def N7:ByteArray:=⟨#[112,101,114,109,61]⟩
inductive Part where
 | tst (t:Tst)
 | fil (p:ByteArray)
 | dir (p:ByteArray)
 | prm (n:Int)
def Part.flag:Part→ByteArray
 | .tst t=>if t.ot≠0 then fC else fF
 | _=>fF
def Part.txt:Part→ByteArray
 | .tst t=>t.txt
 | .fil p=>NZ ++ nX p
 | .dir p=>Sy ++ nX p
 | .prm n=>N7 ++ JS n
def Part.ok:Part→Prop
 | .tst t=>t.any=0∧I64 t.nu
 | .fil p=>p.size≤128
 | .dir p=>p.size≤128
 | .prm n=>1≤n∧n≤15
def Rul.put (r:Rul):Part→Rul
 | .tst t=> { r with ts:=r.ts ++ [t] }
 | .fil p=> { r with wa:=1,pa:=p }
 | .dir p=> { r with wa:=2,pa:=p }
 | .prm n=> { r with pe:=n }
def Fw (r:Rul):List Part:=if r.wa=1 then [.fil r.pa, .prm r.pe] else if r.wa=2 then [.dir r.pa, .prm r.pe] else []
def gy (r:Rul):List Part:=r.ts.map .tst ++ Fw r
def mP (ps:List Part):List ByteArray:=ps.flatMap fun p=> [p.flag,p.txt]
def QG (k:ByteArray):List ByteArray:=if k.size=0 then [] else [fK,nX k]
def Dl (r:Rul):List ByteArray:=if cB r.li=true then [fS,JP r.ca] else []
def headW (r:Rul):ByteArray:=Sw r.ac.toNat ++ ⟨#[44]⟩ ++ NY r.li.toNat
def JU (r:Rul):List ByteArray:=headW r :: (Dl r ++ (mP (gy r) ++ QG r.ke))
def Dn:Nat:=4294967295
def nM:Rul:=⟨0,0,0, [],0,⟨#[]⟩,0,⟨#[]⟩⟩
def Gz (r:Rul):Rul:= { nM with li:=r.li,ac:=r.ac,ca:=r.ca }
structure QH (r:Rul):Prop where
 li:1≤r.li∧r.li≤5
 ac:r.ac=1∨r.ac=2
 ca:(cB r.li=true∧r.ca≠0∧r.ca < 4294967296)∨(cB r.li=false∧r.ca=0)
 len:r.ts.length≤8
 tst:aZ r.ts r.li=0
 wat:dC r.wa r.pe r.li r.pa=true
 key:r.ke.size≤31
theorem uT {r:Rul} (h:bH r=0):QH r:=by
 unfold bH at h;split at h
 · cases h
 split at h
 · cases h
 split at h
 · cases h
 split at h
 · cases h
 split at h
 · cases h
 split at h
 · rename_i h6;exact absurd h h6
 split at h
 · cases h
 split at h
 · cases h
 rename_i h1 h2 h3 h4 h5 h6 h7 h8;refine ⟨by omega,by omega,?_,by omega,by omega,by simpa using h7,by omega⟩;cases hc:cB r.li
 · right;refine ⟨rfl,?_⟩;have:=h4;simp [hc] at this;exact this
 · left;refine ⟨rfl,?_⟩;have:=h3;simp [hc] at this;omega
theorem kK {l:Int} :∀ {ts:List Tst},aZ ts l=0→∀ t∈ts,t.chk l=0
 | [],_,t,ht=>by cases ht
 | t :: ts,h,u,hu=>by
  unfold aZ at h;split at h
  · rename_i h0;rcases List.mem_cons.1 hu with rfl | hu
    · exact h0
    · exact kK h u hu
  · rename_i h0;exact absurd h h0
theorem rV {l:Int} :∀ {ts:List Tst} {k:Nat} (hk:k < ts.length),aZ (ts.take k) l=0→ts[k].chk l≠0→aZ ts l=ts[k].chk l
 | [],k,hk,_,_=>by simp at hk
 | t :: ts,0,_,_,h=>by unfold aZ;exact if_neg h
 | t :: ts,k+1,hk,h0,h=>by
  rw [List.take_succ_cons] at h0;have ht:=kK h0 t List.mem_cons_self;have h1:aZ (ts.take k) l=0:=by unfold aZ at h0;rw [if_pos ht] at h0;exact h0
  have:=rV (ts:=ts) (k:=k) (by simp at hk;omega) h1 h;unfold aZ;rw [if_pos ht,this];rfl
theorem mQ {l:Int} :∀ {ts:List Tst} {t:Tst},aZ ts l=0→t.chk l=0→aZ (ts ++ [t]) l=0
 | [],t,_,h=>by simp [aZ,h]
 | u :: ts,t,h0,h=>by
  have hu:=kK h0 u List.mem_cons_self;have h1:aZ ts l=0:=by unfold aZ at h0;rw [if_pos hu] at h0;exact h0
  show aZ (u :: (ts ++ [t])) l=0;unfold aZ;rw [if_pos hu];exact mQ h1 h
theorem uU {l:Int} {ts:List Tst} {k:Nat} (hk:k < ts.length) (h0:aZ (ts.take k) l=0) (h:ts[k].chk l=0):aZ (ts.take (k+1)) l=0:=by
 rw [List.take_succ_eq_append_getElem hk];exact mQ h0 h
theorem Dp {r:Rul} (h:QH r):(r.wa=0∧r.pa=⟨#[]⟩∧r.pe=0)∨((r.wa=1∨r.wa=2)∧r.li=3∧dL r.pa=true∧r.pa.size≤128∧1≤r.pe∧r.pe≤15):=by
 have hw:=h.wat;unfold dC at hw;split at hw
 · rename_i h0;simp only [decide_eq_true_eq] at hw;exact .inl ⟨h0,jY (by
     have:r.pa.data.toList.length=0:=(by rw [Array.length_toList];exact hw.1);rw [List.eq_nil_of_length_eq_zero this]),hw.2⟩
 · split at hw
   · rename_i h1;simp only [Bool.and_eq_true,decide_eq_true_eq] at hw;exact .inr ⟨h1,hw.1.1,hw.1.2,hw.2.1,hw.2.2.1,hw.2.2.2⟩
   · cases hw
theorem rW (r:Rul):∀ ts:List Tst,(ts.map Part.tst).foldl Rul.put r= { r with ts:=r.ts ++ ts }
 | []=>by simp
 | t :: ts=>by
  rw [List.map_cons,List.foldl_cons,rW];simp [Rul.put]
theorem zo {r:Rul} (h:bH r=0):(gy r).foldl Rul.put (Gz r)= { r with ke:=⟨#[]⟩ } :=by
 have hc:=uT h;unfold gy;rw [List.foldl_append,rW];unfold Fw Gz nM;rcases Dp hc with ⟨h0,h1,h2⟩ | ⟨h1,_⟩
 · rw [if_neg (by omega),if_neg (by omega)];cases r;simp at *;simp [h0,h1,h2]
 · rcases h1 with h1 | h1
   · rw [if_pos h1];cases r;simp at *;simp [h1,Rul.put]
   · rw [if_neg (by omega),if_pos h1];cases r;simp at *;simp [h1,Rul.put]
def rY (r:Rul):List ByteArray:=fA :: JU r
def a0R (r:Rul):Nat:=2+(Dl r).length
theorem uW (r:Rul):rY r=(fA :: headW r :: Dl r) ++ (mP (gy r) ++ QG r.ke):=by
 unfold rY JU;simp
theorem pW (r:Rul):(fA :: headW r :: Dl r).length=a0R r:=by unfold a0R;simp;omega
theorem rZ:∀ ps:List Part,(mP ps).length=2 * ps.length
 | []=>rfl
 | p :: ps=>by
  have e1:mP (p :: ps)=p.flag :: p.txt :: mP ps:=by simp [mP]
  rw [e1];simp [rZ ps];omega
theorem wu:∀ (ps:List Part) (i:Nat) (hi:i < ps.length),(mP ps)[2 * i]? =some (ps[i]'hi).flag∧(mP ps)[2 * i+1]? =some (ps[i]'hi).txt
 | [],i,hi=>by simp at hi
 | p :: ps,0,_=>⟨rfl,rfl⟩
 | p :: ps,i+1,hi=>by
  have e1:mP (p :: ps)=p.flag :: p.txt :: mP ps:=by simp [mP]
  have:=wu ps i (by simp at hi;omega);rw [e1,show 2 * (i+1)=(2 * i+1)+1 by omega];simpa using this
theorem zu (r:Rul) (i:Nat) (hi:i < (gy r).length):(rY r)[a0R r+2 * i]? =some ((gy r)[i]'hi).flag∧(rY r)[a0R r+2 * i+1]? =some ((gy r)[i]'hi).txt:=by
 obtain ⟨h1,h2⟩:=wu (gy r) i hi;have hl:=rZ (gy r);rw [uW];constructor
 · rw [List.getElem?_append_right (by rw [pW];omega),pW,List.getElem?_append_left (by omega),show a0R r+2 * i - a0R r=2 * i by omega,h1]
 · rw [List.getElem?_append_right (by rw [pW];omega),pW,List.getElem?_append_left (by omega),show a0R r+2 * i+1 - a0R r=2 * i+1 by omega,h2]
structure Fx (r0:Rul) (at' :Nat) (r:Rul):Prop where
 ex:∃ i,i≤(gy r0).length∧at' =a0R r0+2 * i∧r=((gy r0).take i).foldl Rul.put (Gz r0)
theorem Fx.stop {r0 r:Rul} {k:Nat} (h:Fx r0 k r) (hok:bH r0=0) (hf:∀ f,(rY r0)[k]? =some f→f≠fF∧f≠fC):k=a0R r0+2 * (gy r0).length∧r= { r0 with ke:=⟨#[]⟩ } :=by
 obtain ⟨i,hi,rfl,hr⟩:=h.ex;by_cases hlt:i < (gy r0).length
 · obtain ⟨h1,h2⟩:=zu r0 i hlt;have:=hf _ h1;exfalso;generalize (gy r0)[i]=p at this;cases p with
   | tst t=>
    unfold Part.flag at this;simp only [] at this;split at this
    · exact this.2 rfl
    · exact this.1 rfl
   | fil _=>exact this.1 rfl
   | dir _=>exact this.1 rfl
   | prm _=>exact this.1 rfl
 · have hi' :i=(gy r0).length:=(by omega);subst hi';rw [List.take_length,zo hok] at hr;exact ⟨rfl,hr⟩
def nbC (c:UInt8):Bool:=c == 0 || c == 47
def aO:ByteArray:=⟨#[0,47]⟩
theorem mU:aO.data.toList= [0,47]:=rfl
theorem j4 (c:UInt8):aO.data.toList.contains c=nbC c:=by
 rw [mU];have H:∀ n:Fin 256,([0,47]:List UInt8).contains (UInt8.ofNat n.val)=nbC (UInt8.ofNat n.val):=by decide+kernel
 have:=H ⟨c.toNat,c.toNat_lt⟩;simpa using this
theorem oH:∀ (j:Nat) b,aO.data.toList[j]? =some b→b.toNat < 128:=by
 intro j b hb;have hm:=List.mem_of_getElem? hb;rw [mU] at hm;simp at hm;rcases hm with rfl | rfl <;> decide
theorem GH {c:UInt8} (h:128≤c.toNat):aO.data.toList.contains c=false:=by
 rw [← Bool.not_eq_true];intro hc;rw [List.contains_iff_mem] at hc;obtain ⟨j,hj⟩:=List.mem_iff_getElem?.1 hc;have:=oH j c hj;omega
theorem Dt {s:ByteArray} {i k:Nat} (hn:Lib.NoAny s.data.toList aO.data.toList i) (hall:∀ j b,i≤j→j < i+k→s.data.toList[j]? =some b→128≤b.toNat):Lib.NoAny s.data.toList aO.data.toList (i+k):=fun j b hj hb=>by
 by_cases h:j < i
 · exact hn j b h hb
 · exact GH (hall j b (by omega) hj hb)
theorem pX:∀ b∈aO.data.toList,b.toNat < 128:=by rw [mU];decide
theorem GI (i:Nat) (hi:i < 2) (c:UInt8) (h:128≤c.toNat):∃ h' :i < aO.size,((((aO[i]'h').toNat:Int)) != (c.toNat:Int))=true:=by
 have h' :i < aO.size:=hi;refine ⟨h',?_⟩;have hm:=pX (aO[i]'h') (by
  have:aO.data.toList[i]? =some (aO[i]'h'):=List.getElem?_eq_getElem (by rw [GD];exact h');exact List.mem_of_getElem? this)
 simp;omega
theorem Du (i:Nat) (hi:i≤2):∀ b∈(aO.extract i aO.size).data.toList,b.toNat < 128:=by
 intro b hb;have:(aO.extract i aO.size).data.toList=aO.data.toList.drop i:=by
  have hh:aO.size=aO.data.toList.length:=(GD _).symm;rw [Lib.extract_data,hh,List.take_of_length_le (by rw [List.length_drop];omega)]
 rw [this] at hb;exact pX b (List.mem_of_mem_drop hb)
theorem uX (z:Int) (R:ByteArray) (k:Nat) (c:UInt8) (z1:128≤z) (b1:(z == 65533)=false) (he:Hid (Utf8.encode z=R)) (hvr:Hid (Lib.validRune z=true)) (hs:R.size=k+1) (hk1:1≤k) (hk3:k≤3) (hc:128≤c.toNat) (hk:k < R.size) (hR:R[k]=c) (w:World):
   Calls Tryz.prog 292 #[.string aO, .int .i32 z] w fun e w' =>e= .returned (.int .i64 (-1))∧Below w.heap.size w w' :=by
 by_cases h2:k < 2
 · obtain ⟨hko,hne⟩:=GI k (by omega) c hc;have HX:=Hd (Fy hc _ (Du (k+1) (by omega)));have hsz:aO.size=2:=rfl;have HC:=Hd (show ∀ W,Calls Tryz.prog 300 #[.string (aO.extract (k+1) 2), .int .u8 (c.toNat:Int)] W fun e w' =>e= .returned (.int .i64 (-1))∧w' =W from fun W=>
    (Sz (aO.extract (k+1) 2) c W).mono fun _ _ h=>⟨by rw [h.1];exact congrArg (fun x=>Ending.returned (Value.int .i64 x)) HX.o,h.2.symm⟩)
   have he' :=he.o;have hs' :(R.size:Int)=(k:Int)+1:=(by omega);have k5:(k:Int) < 2:=(by omega);have k0:(0:Int)≤(k:Int):=(by omega);have HS:=Hd hs;have hkl:k < k+1:=(by omega);clear hs;go_in;go_wp2_with fail;refine (oG z _).mono ?_;rintro e w' ⟨rfl,rfl⟩;rw [hvr.o];go_wp2_with fail
   go_step3
   go_wp2_with fail;go_loop [9] (fun i=>i= .int .i64 (k:Int)) (fun _=>0);case atStart=>rfl
   case round=>
    subst hrel;go_wp2_with fail
    go_step3
    go_wp2_with fail;go_quiet (fail);have hbq:=below_drewN (Below.refl w.heap.size w) nq;generalize w.drewN nq=w2 at *;go_wp2_with fail;have c3:(0:Int)≤(k:Int)+1:=(by omega);have c4:(k:Int)+1≤2:=(by omega);have c5:IntKind.i64.wrap ((k:Int)+1)=(k:Int)+1:=IntWalk.i64_in _ (by omega);have c6:((k:Int)+1).toNat=k+1:=(by omega);go_quiet ((go_at_call 300;exact Calls.quiet_of_same (HC.o _)));clear c5 c6;go_wp2_with fail;simp+zetaDelta only [Exit.noGoto_ret,Exit.inBlock,Exit.then];go_ret;exact ⟨rfl,below_drewN hbq _⟩
 · have hsz:aO.size=2:=rfl;have he' :=he.o;have hs' :(R.size:Int)=(k:Int)+1:=(by omega);have k5:2≤(k:Int):=(by omega);have HS:=Hd hs;clear hs h2;go_in;go_wp2_with fail;refine (oG z _).mono ?_;rintro e w' ⟨rfl,rfl⟩;rw [hvr.o];go_wp2_with fail
   go_step3
   go_wp2_with fail;go_loop [9] (fun i=>i= .int .i64 (k:Int)) (fun _=>0);case atStart=>rfl
   case round=>
    subst hrel;go_wp2_with fail;go_ret;exact ⟨rfl,Below.refl _ _⟩
theorem pY (w:World):
  Calls Tryz.prog 292 #[.string aO, .int .i32 65533] w fun e w' =>e= .returned (.int .i64 (-1))∧Below w.heap.size w w' :=by
 have hsz:aO.size=2:=rfl;go_in;go_wp2_with fail
 go_loopg [5,6] 2 (fun g _ _ wx=>∃ i:Nat,i+g=2∧wx=w.iter aO i)
 case atStart=>exact ⟨0,by omega,rfl⟩
 case round=>
  obtain ⟨i,hig,rfl⟩:=hrel;cases gk with
  | zero=>
   obtain rfl:i=2:=(by omega);have hnx:=run_next_end (P:=Tryz.prog) w aO 2
   go_wp2
   go_ret;exact ⟨rfl,(Below.refl _ _).alloc (Nat.le_refl _) _⟩
  | succ g=>
   have hi:i < aO.size:=(by omega);have ha:=pX (aO[i]'hi) (by
    have:aO.data.toList[i]? =some (aO[i]'hi):=List.getElem?_eq_getElem (by rw [GD];exact hi);exact List.mem_of_getElem? this)
   have hnx:=fun ty=>run_next_ascii (P:=Tryz.prog) w aO i ty hi ha;generalize aO[i]=x at *;have b1:((x.toNat:Int) == 65533)=false:=(by simp;omega);go_wp2_with fail
   go_roundg g
   case measure=>omega
   case rel=>exact ⟨i+1,by omega,rfl⟩
theorem lD (x:UInt8) (hx:x.toNat < 128) (w:World):Calls Tryz.prog 292 #[.string aO, .int .i32 (x.toNat:Int)] w fun e w' =>e= .returned (.int .i64 (Lib.indexByte aO.data.toList x))∧w=w' :=
 (Tryz.strings_IndexRune_ascii aO (x.toNat:Int) w (by omega) (by omega)).mono fun _ _ h=>⟨by rw [h.1];simp,h.2.symm⟩
theorem r9 (r:Nat) (h1:128≤r) (h2:r≤1114111) (h3:r < 55296∨57344≤r) (h4:r≠65533) (w:World):
  Calls Tryz.prog 292 #[.string aO, .int .i32 (r:Int)] w fun e w' =>e= .returned (.int .i64 (-1))∧Below w.heap.size w w' :=by
 obtain ⟨R,k,c,he,hs,hk1,hk3,hc,hk,hR⟩:=JW r h1 h2 h3;have hvr:Lib.validRune (r:Int)=true:=by unfold Lib.validRune;simp;omega
 have b1:((r:Int) == 65533)=false:=by rw [beq_eq_false_iff_ne];omega
 exact uX (r:Int) R k c (by omega) b1 (Hd he) (Hd hvr) hs hk1 hk3 hc hk hR w
def p8 (s:ByteArray) (w:World) (e:Ending) (w' :World):Prop:=Below w.heap.size w w' ∧((e= .returned (.int .i64 (-1))∧s.data.toList.all (fun c=> !nbC c)=true)∨
 ∃ i:Nat,i < s.size∧e= .returned (.int .i64 (i:Int))∧(s.data.toList.take i).all (fun c=> !nbC c)=true∧∃ c r,s.data.toList.drop i=c :: r∧nbC c=true)
theorem oI {l:List UInt8} {i:Nat} (h:Lib.NoAny l aO.data.toList i):(l.take i).all (fun c=> !nbC c)=true:=by
 rw [List.all_eq_true];intro c hc;obtain ⟨j,hj⟩:=List.mem_iff_getElem?.1 hc;have hji:j < i:=by
  have:=(List.getElem?_eq_some_iff.1 hj).1;rw [List.length_take] at this;omega
 rw [List.getElem?_take_of_lt hji] at hj;rw [← j4,h j c hji hj];rfl
theorem si {s:ByteArray} (h:Lib.NoAny s.data.toList aO.data.toList s.size):s.data.toList.all (fun c=> !nbC c)=true:=by
 have:=oI h
 rwa [List.take_of_length_le (by rw [GD];exact Nat.le_refl _)] at this
theorem su {s:ByteArray} {i:Nat} {x:UInt8} (h:Lib.NoAny s.data.toList aO.data.toList i) (hx:s.data.toList[i]? =some x) (hc:aO.data.toList.contains x=true):
  i < s.size∧(s.data.toList.take i).all (fun c=> !nbC c)=true∧∃ c r,s.data.toList.drop i=c :: r∧nbC c=true:=by
 obtain ⟨hl,e⟩:=List.getElem?_eq_some_iff.1 hx;refine ⟨by rw [GD] at hl;exact hl,oI h,x,s.data.toList.drop (i+1),?_,by rw [← j4];exact hc⟩;rw [List.drop_eq_getElem_cons hl,e]
theorem sw (l:List UInt8):(Lib.indexAny l aO.data.toList= -1∧Lib.NoAny l aO.data.toList l.length)∨∃ (i:Nat) (x:UInt8),Lib.indexAny l aO.data.toList=(i:Int)∧Lib.NoAny l aO.data.toList i∧l[i]? =some x∧aO.data.toList.contains x=true:=by
 by_cases h:Lib.NoAny l aO.data.toList l.length
 · exact .inl ⟨Lib.indexAny_none h,h⟩
 · have key:∀ d i,l.length - i=d→Lib.NoAny l aO.data.toList i→¬ Lib.NoAny l aO.data.toList l.length→∃ (i:Nat) (x:UInt8),Lib.NoAny l aO.data.toList i∧l[i]? =some x∧aO.data.toList.contains x=true:=by
    intro d;induction d with
    | zero=>
     intro i hd hn hno;exact absurd (fun j b hj hb=>hn j b (by omega) hb) hno
    | succ d ih=>
     intro i hd hn hno;have hi:i < l.length:=(by omega);cases hc:aO.data.toList.contains l[i]
     · exact ih (i+1) (by omega) (hn.succ (List.getElem?_eq_getElem hi) hc) hno
     · exact ⟨i,l[i],hn,List.getElem?_eq_getElem hi,hc⟩
   obtain ⟨i,x,h1,h2,h3⟩:=key _ 0 rfl (Lib.NoAny.zero _ _) h;exact .inr ⟨i,x,Lib.indexAny_hit h1 h2 h3,h1,h2,h3⟩
theorem xN (s:ByteArray) (w:World) (h8:8 < s.size) (hs:s.size≤1000000):Calls Tryz.prog 288 #[.string s, .string aO] w (p8 s w):=by
 have hz:=zero_of_info (P:=Tryz.prog) (t:=357) (v:= .agg (Array.replicate 256 (.bool false))) (n:=256) (by kernel_rfl);refine (Tryz.strings_IndexAny_long hz.1 s aO w (by decide) h8 (by omega) (by decide) oH).mono ?_;rintro e w' ⟨h1,h2⟩;refine ⟨by rw [h2];exact ((Below.refl _ _).alloc (Nat.le_refl _) _).alloc (by simp) _,?_⟩;rcases sw s.data.toList with ⟨k1,k2⟩ | ⟨i,x,k1,k2,k3,k4⟩
 · rw [k1] at h1;rw [GD] at k2;exact .inl ⟨h1,si k2⟩
 · rw [k1] at h1;obtain ⟨q1,q2,q3⟩:=su k2 k3 k4;exact .inr ⟨i,q1,h1,q2,q3⟩
theorem GJ {x:UInt8} (h:aO.data.toList.contains x=false):Lib.indexByte aO.data.toList x < 0:=by
 have:=Lib.contains_iff_indexByte aO.data.toList x;rw [h] at this;have:=of_decide_eq_false this.symm;omega
theorem GK {x:UInt8} (h:aO.data.toList.contains x=true):0≤Lib.indexByte aO.data.toList x:=by
 have:=Lib.contains_iff_indexByte aO.data.toList x;rw [h] at this;exact of_decide_eq_true this.symm
theorem oJ:aO.toList= [0,47]:=by decide+kernel
theorem uY (s:ByteArray) (w:World) (h8:s.size≤8):Calls Tryz.prog 288 #[.string s, .string aO] w (p8 s w):=by
 have hemp:aO.toList.isEmpty=false:=by rw [oJ];rfl
 have SE:(aO.toList == [])=false:=by rw [oJ];rfl
 have hsz:aO.size=2:=rfl;have h8z:decide ((8:Int) < (s.size:Int))=false:=decide_eq_false (by omega);go_in;go_wp2_with fail;refine (JX _ _).mono ?_;rintro e w' ⟨rfl,rfl⟩;rw [h8z];go_wp2_with fail
 go_loopg [9,10] s.size (fun g _ _ wx=>∃ i:Nat,i+g=s.size∧CJ s w wx i∧Hid (Lib.NoAny s.data.toList aO.data.toList i))
 case atStart=>exact ⟨0,by omega,CJ.start s w,Lib.NoAny.zero _ _⟩
 case round=>
  obtain ⟨i,hig,hst,hno⟩:=hrel;have HST:=Hd hst;cases gk with
  | zero=>
   obtain rfl:i=s.size:=(by omega);have HN:=Hd (si hno.o);have hnx:=fun ty=>Lib.run_next_end_at (P:=Tryz.prog) _ w.heap.size s s.size ty hst.it (Nat.lt_irrefl _);clear hst hno;go_wp2_with fail;go_ret;exact ⟨HST.o.lt, .inl ⟨rfl,HN.o⟩⟩
  | succ g=>
   have hi:i < s.size:=(by omega);obtain ⟨x,hx⟩:∃ x:UInt8,s[i]'hi=x:=⟨_,rfl⟩;have hxl:s.data.toList[i]? =some x:=(by rw [← hx];exact Lib.data_getElem? s i hi);have HX:=Hd hxl;by_cases hx128:x.toNat < 128
   · have hnx:=fun ty=>Lib.run_next_ascii_at (P:=Tryz.prog) _ w.heap.size s i ty hst.it hi (by rw [hx];exact hx128);rw [hx] at hnx;have HM:=Hd (hst.move (i+1));clear hxl hx hst;cases hin:aO.data.toList.contains x
     · have hneg:=GJ hin;have HIN:=Hd hin;clear hin;go_wp2_with fail;refine (lD x hx128 _).mono ?_;rintro e w' ⟨rfl,rfl⟩;go_wp2_with fail
       go_roundg g
       case measure=>omega
       case rel=>exact ⟨i+1,by omega,HM.o,Hd (hno.o.succ HX.o HIN.o)⟩
     · have hpos:=GK hin;have HIN:=Hd (su hno.o HX.o hin);clear hin;go_wp2_with fail;refine (lD x hx128 _).mono ?_;rintro e w' ⟨rfl,rfl⟩;go_wp2_with fail;go_ret;exact ⟨HM.o.lt, .inr ⟨i,HIN.o.1,rfl,HIN.o.2.1,HIN.o.2.2⟩⟩
   · have hspec:=GG s i hi (by rw [hx];omega);have hnx:=fun ty=>Lib.run_next_any_at (P:=Tryz.prog) _ w.heap.size s i ty hst.it hi;generalize (Utf8.decode s i).1=r at *;generalize (Utf8.decode s i).2=k at *;have HM:=Hd (hst.move (i+k));have HSK:=Hd (Dt hno.o hspec.all);have hk1:=hspec.pos;have hk2:=hspec.fit;have HV:=Hd (fun (W:World) (hr:r≠65533)=>r9 r hspec.lo hspec.top hspec.ok hr W);clear hxl hx hst hspec hx128;by_cases hr:r=65533
     · subst hr;go_wp2_with fail;refine (pY _).mono ?_;rintro e w2 ⟨rfl,hb⟩;have HM2:=Hd (HM.o.below hb);clear hb;go_wp2_with fail
       go_roundg (s.size - (i+k))
       case measure=>omega
       case rel=>exact ⟨i+k,by omega,HM2.o,HSK⟩
     · have HV2:=Hd (fun W=>HV.o W hr);clear hr HV;obtain ⟨z,hz⟩:∃ z:Int,z=(r:Int):=⟨_,rfl⟩;rw [← hz] at hnx HV2;clear hz;go_wp2_with fail;refine (HV2.o _).mono ?_;rintro e w2 ⟨rfl,hb⟩;have HM2:=Hd (HM.o.below hb);clear hb;go_wp2_with fail
       go_roundg (s.size - (i+k))
       case measure=>omega
       case rel=>exact ⟨i+k,by omega,HM2.o,HSK⟩
theorem xO (s:ByteArray) (w:World) (hs:s.size≤1000000):Calls Tryz.prog 288 #[.string s, .string aO] w (p8 s w):=by
 by_cases h:s.size≤8
 · exact uY s w h
 · exact xN s w (by omega) hs
theorem GL (c:UInt8):(!nbC c)=nsC c:=by unfold nbC nsC;cases h1:c == 0 <;> cases h2:c == 47 <;> simp [bne,h1,h2]
theorem sD (s:ByteArray) (w:World) (hs:s.size≤1000000):Calls Tryz.prog 279 #[.string s, .string aO] w fun e w' =>e= .returned (.bool (!(s.data.toList.all nsC)))∧Below w.heap.size w w' :=by
 have HE:=Hd (show (s.data.toList.all fun c=> !nbC c)=s.data.toList.all nsC by congr 1;funext c;exact GL c);go_in;go_wp2_with fail;refine (xO s _ hs).mono ?_;rintro e w1 ⟨hb,(⟨rfl,h1⟩ | ⟨i,h1,rfl,h2,c,r,h3,h4⟩)⟩
 · have HB:=Hd hb;have HR:=Hd (show s.data.toList.all nsC=true by rw [← HE.o];exact h1);clear hb h1;go_wp2_with fail;go_ret;exact ⟨by rw [HR.o];rfl,HB.o⟩
 · have HB:=Hd hb;have HR:=Hd (show s.data.toList.all nsC=false by
    rw [← HE.o, ← Bool.not_eq_true];intro hall;have hm:c∈s.data.toList:=List.mem_of_mem_drop (by rw [h3];exact List.mem_cons_self);have:=List.all_eq_true.1 hall c hm;rw [h4] at this;cases this)
   have i0:(0:Int)≤(i:Int):=(by omega);clear hb h1 h2 h3;go_wp2_with fail;go_ret;exact ⟨by rw [HR.o];rfl,HB.o⟩
structure Mid (lo hi:Nat) (A B:World):Prop where
 low:Below lo A B
 high:∀ b,hi≤b→b < A.heap.size→B.heap[b]? =A.heap[b]?
theorem j6 {lo l:Nat} (A:World) (o:Obj) (h:lo≤l) (hl:l < A.heap.size):Below lo A (A.putObj l o):=
 (Below.refl lo A).grown (grownBy_putObj' A l o) (by omega) (fun k e=>by cases e;exact h)
variable {F:Fence} {n:Nat} {P:Program}
end Go.Proofs.YtollifnnpihfdaaGreatDoor
namespace Go.Proofs.YtollifnnpihfdaaGreatDoor
open Go.RowKit
theorem Af (l:List En) (ino:Int) (k:Nat) (hk:k < l.length):nP (l.take (k+1)) ino=nP (l.take k) ino+(if l[k].ino == ino then 1 else 0):=by
 unfold nP;rw [List.take_succ_eq_append_getElem hk,List.countP_append];congr 1;simp [List.countP_cons]
theorem Ah (l:List Nd) (ino:Int) (k:Nat) (hk:k < l.length):jR (l.take (k+1)) ino=jR (l.take k) ino+nP l[k].es ino:=by
 unfold jR;rw [List.take_succ_eq_append_getElem hk,List.map_append,List.sum_append];simp
theorem bq {n q:Nat} (h:q < n) (i:Value) (hi:i= .int .i64 ((q:Int)+1)):n - (intOf i).toNat < n - (intOf (.int .i64 (q:Int))).toNat:=by
 subst hi;simp [intOf];omega
theorem eB {q:Nat} (h:q≤100000000):wrap64 ((q:Int)+1)=(q:Int)+1∧IntKind.i64.wrap ((q:Int)+1)=(q:Int)+1:=⟨IntWalk.wrap64_in _ (by omega),IntWalk.i64_in _ (by omega)⟩
theorem dI (w:World) (cs ds:Array Value) (s t:TypeId):Below w.heap.size w ((w.alloc (.cells cs s)).alloc (.cells ds t)):=((Below.refl w.heap.size w).alloc (Nat.le_refl _) _).alloc (by simp) _
theorem Hf (dev ino:Int) (ds:List Dm) (A:Option Addr) (n c:Nat) (hn:n=ds.length) (w:World) (h:bR w w.heap.size A ds):
  Calls Tryz.prog 261 #[fsV A n c,flV dev ino] w fun e w' =>e= .returned (.int .i64 (jE (ds.map Dm.dv) dev ino))∧Below w.heap.size w w' :=by
 have HN:=Hd hn;have B0:=Hd (dI w #[.slice A n c] #[.int .i64 dev, .int .i64 ino] 28 44);have F0:=Hd (h.below B0.o);have HI:=Hd (mF dev ino ds A n c hn _ F0.o);have HL:=Hd (show jE (ds.map Dm.dv) dev ino=match iT (ds.map Dm.dv) dev with | none=>0 | some d=>match kI d.ns ino with | none=>0 | some _=>(jR d.ns ino:Int) from rfl);have V0:=Hd ((Blk.new w #[.slice A n c] 28).alloc (.cells #[.int .i64 dev, .int .i64 ino] 44));have U0:=Hd (show Blk ((w.alloc (.cells #[.slice A n c] 28)).alloc (.cells #[.int .i64 dev, .int .i64 ino] 44)) (w.heap.size+1) 44 #[.int .i64 dev, .int .i64 ino] by
  have h:=Blk.new (w.alloc (.cells #[.slice A n c] 28)) #[.int .i64 dev, .int .i64 ino] 44;simpa using h)
 clear h hn;go_in;go_wp2_with fail;refine HI.o.mono ?_;rintro e w1 ⟨rfl,hb⟩;have B1:=Hd (B0.o.trans (hb.mono B0.o.size));have F1:=Hd (F0.o.below hb);have V1:=Hd (V0.o.below hb);have U1:=Hd (U0.o.below hb);clear hb HI B0 F0 V0 U0;cases hi:iA (ds.map Dm.dv) dev ino with
 | none=>
  have HR:=Hd (show jE (ds.map Dm.dv) dev ino=0 by
   rw [HL.o];unfold iA at hi;cases hd:iT (ds.map Dm.dv) dev with
   | none=>rfl
   | some d=>rw [hd] at hi;have hi:kI d.ns ino=none:=hi;simp only [hi])
  have i1:CG none < 0:=by decide
  clear hi;go_wp2_with fail;go_ret;exact ⟨by rw [HR.o];rfl,B1.o⟩
 | some k=>
  obtain ⟨j,hj,hk,rfl,hq⟩:=fM hi;clear hq;have HR:=Hd (show jE (ds.map Dm.dv) (j:Int) ino=(jR (ds[j].xs.map (·.nd)) ino:Int) by
   rw [HL.o,eG (by omega) (by rw [Int.toNat_natCast];exact hj)];have hi:kI (ds[j].xs.map (·.nd)) ino=some k:=by
    unfold iA at hi;rw [eG (by omega) (by rw [Int.toNat_natCast];exact hj)] at hi;exact hi
   have e:ds[Int.toNat (j:Int)].dv.ns=ds[j].xs.map (fun x=>x.nd):=rfl;simp only [e,hi])
  have j1:(j:Int) < (n:Int):=by rw [HN.o];omega
  have j2:(0:Int)≤(j:Int):=by omega
  have i1:CG (some k)=(k:Int):=rfl;have i2:¬ (k:Int) < 0:=by omega
  have HD:=Hd (F1.o.nodes ds[j] (List.getElem_mem hj));have HE:=Hd (F1.o.cO ds[j] (List.getElem_mem hj));obtain ⟨ad,rfl,hab,hcx⟩:=F1.o.at_ j hj;obtain ⟨s0,s1⟩:=bO (a:=ad.add (j * 2)) hcx;have v0:=V1.o.cell 0;have u0:=U1.o.cell 0;rw [i1];clear hcx hi i1 hk HL F1 V1;generalize ds[j]=d at *;have u1:=U1.o.cell 1;go_wp2_with fail;clear s0 s1 v0 u0;go_loopw [5,7] (fun v i wr=>∃ q t:Nat,q≤d.xs.length∧v= .int .i64 (jR ((d.xs.map (·.nd)).take q) ino:Nat)∧i= .int .i64 q∧wr=w1.drewN t∧jR ((d.xs.map (·.nd)).take q) ino≤1000 * q) (fun _ i _=>d.xs.length - (intOf i).toNat);case atStart=>exact ⟨0,0,Nat.zero_le _,rfl,rfl,rfl,Nat.le_refl _⟩
  case round=>
   generalize wr=ws at *;obtain ⟨q,t,hq,rfl,rfl,rfl,hle⟩:=hrel;have hlen:=HD.o.2;have WQ:=Hd (bW hq (by omega));by_cases hlt:q < d.xs.length;case neg=>
    have q1:¬ (q:Int) < (d.xs.length:Int):=(by omega);have HC:=Hd (show (d.xs.map (·.nd)).take q=d.xs.map (·.nd) from List.take_of_length_le (by simp;omega));go_wp2_with fail;go_ret;exact ⟨by rw [HR.o,HC.o];rfl,below_drewN B1.o _⟩
   case pos=>
    have q1:(q:Int) < (d.xs.length:Int):=(by omega);have q2:(0:Int)≤(q:Int):=(by omega);obtain ⟨bd,hbd,hbb,hcy⟩:=HD.o.1 q hlt;obtain ⟨t0,t1,t2,t3,t4,t5,t6,t7⟩:=dE (a:=bd.add (q * 8)) hcy;have HX:=Hd (HE.o d.xs[q] (List.getElem_mem hlt));have HST:=Hd (show jR ((d.xs.map (·.nd)).take (q+1)) ino=jR ((d.xs.map (·.nd)).take q) ino+nP d.xs[q].nd.es ino by rw [Ah _ _ _ (by simpa using hlt)];simp);clear hcy t0 t1 t2 t3 t4 t5 t6;generalize d.xs[q]=x at *;rw [hbd];go_wp2_with fail;go_loopw [5,8] (fun v i wr=>∃ r t' :Nat,r≤x.nd.es.length∧v= .int .i64 (jR ((d.xs.map (·.nd)).take q) ino+nP (x.nd.es.take r) ino:Nat)∧i= .int .i64 r∧wr=w1.drewN t' ∧nP (x.nd.es.take r) ino≤r) (fun _ i _=>x.nd.es.length - (intOf i).toNat);case atStart=>exact ⟨0,t,Nat.zero_le _,rfl,rfl,rfl,Nat.le_refl _⟩
    case round=>
     obtain ⟨r,t',hr,rfl,rfl,rfl,hle2⟩:=hrel;have hes:=HX.o.2.1;have WR:=Hd (bW hr (by omega));by_cases hrl:r < x.nd.es.length;case neg=>
      have r1:¬ (r:Int) < (x.nd.es.length:Int):=(by omega);have HC:=Hd (show nP (x.nd.es.take r) ino=nP x.nd.es ino by rw [List.take_of_length_le (by omega)]);have hb1:jR ((d.xs.map (·.nd)).take (q+1)) ino≤1000 * (q+1):=(by rw [HST.o, ← HC.o];omega);have HB1:=Hd hb1;clear hb1 hle hle2 hlen hes;obtain ⟨wq1,wq2⟩:=WQ.o;go_wp2_with fail;go_roundw;case rel=>exact ⟨q+1,_,hlt,by rw [HST.o,HC.o],by go_num,rfl,HB1.o⟩
      case measure=>exact bq hlt _ rfl
     case pos=>
      have r1:(r:Int) < (x.nd.es.length:Int):=(by omega);have r2:(0:Int)≤(r:Int):=(by omega);obtain ⟨cd,hcd,hcb,hcz⟩:=HX.o.1 r hrl;obtain ⟨e0,e1⟩:=iB (a:=cd.add (r * 2)) hcz;have Ng:=Hd (Af x.nd.es ino r hrl);have WV:=Hd (eB (q:=jR ((d.xs.map (·.nd)).take q) ino+nP (x.nd.es.take r) ino) (by omega));clear hcz e0;generalize x.nd.es[r]=y at *;generalize hcc:jR ((d.xs.map (·.nd)).take q) ino+nP (x.nd.es.take r) ino=cc at *;have HCC:=Hd hcc;clear hcc;rw [hcd] at t7;cases hb:(y.ino == ino) with
      | true=>
       have HR2:=Hd (show jR ((d.xs.map (·.nd)).take q) ino+nP (x.nd.es.take (r+1)) ino=cc+1∧nP (x.nd.es.take (r+1)) ino≤r+1 by rw [Ng.o,hb, ← HCC.o];simp;omega);have HV:=Hd (show Value.int .i64 ((cc:Int)+1)=Value.int .i64 ((jR ((d.xs.map (·.nd)).take q) ino+nP (x.nd.es.take (r+1)) ino:Nat):Int) by rw [HR2.o.1];rfl);have HW:=Hd (show Value.int .i64 ((r:Int)+1)=Value.int .i64 ((r+1:Nat):Int) from rfl);clear Ng hle hle2 hlen hes;go_upto_region 11 with fail;go_quiet (fail);obtain ⟨wr1,wr2⟩:=WR.o;obtain ⟨wv1,wv2⟩:=WV.o;go_wp2_with fail;clear wr1 wr2 wv1 wv2;go_roundw;case rel=>
        refine ⟨r+1,t' +nq,hrl,HV.o,HW.o,?_,HR2.o.2⟩;rfl
       case measure=>exact bq hrl _ rfl
      | false=>
       have HR2:=Hd (show jR ((d.xs.map (·.nd)).take q) ino+nP (x.nd.es.take (r+1)) ino=cc∧nP (x.nd.es.take (r+1)) ino≤r+1 by rw [Ng.o,hb, ← HCC.o];simp;omega);have HV:=Hd (show Value.int .i64 (cc:Int)=Value.int .i64 ((jR ((d.xs.map (·.nd)).take q) ino+nP (x.nd.es.take (r+1)) ino:Nat):Int) by rw [HR2.o.1]);have HW:=Hd (show Value.int .i64 ((r:Int)+1)=Value.int .i64 ((r+1:Nat):Int) from rfl);clear Ng hle hle2 hlen hes;go_upto_region 11 with fail;go_quiet (fail);obtain ⟨wr1,wr2⟩:=WR.o;obtain ⟨wv1,wv2⟩:=WV.o;go_wp2_with fail;clear wr1 wr2 wv1 wv2;go_roundw;case rel=>
        refine ⟨r+1,t' +nq,hrl,HV.o,HW.o,?_,HR2.o.2⟩;rfl
       case measure=>exact bq hrl _ rfl
section
variable {w w' :World} {base:Nat} {v:Value} {ds:List Dm}
theorem aC.QW {g n c:Nat} (h:aC w base (.slice (some ⟨g,0,none⟩) n c) ds) {j i:Nat} {u:Value} (hj:j < ds.length) {d' :Dm} (hi:i < 2) (hx:EDv.C d' =(EDv.C (ds[j])).set i u)
  (hd:ax ENd w base d'.sl d'.xs∧d'.xs.length≤1000) (hxs:∀ x∈d'.xs,ax EEn w base x.sl x.nd.es∧jU x.nd)
  (hn:∀ k (hk:k < ds.length),k≠j→∀ q,ds[k].sl.ownBlock=some q→d'.sl.ownBlock≠some q):aC (w.setCell ⟨g,j * 2+i,none⟩ u) base (.slice (some ⟨g,0,none⟩) n c) (ds.set j d'):=by
 have hgc:=aL w g (j * 2+i) u;have hne:∀ {x:Nm},ax EEn w base x.sl x.nd.es→∀ q,x.sl.ownBlock=some q→some g≠some q:=fun {x} hx q e r=>by
  injection r with r;subst r;exact aH hx h.own (show (209:Nat)≠142 by decide) _ e rfl
 have hne2:∀ {d:Dm},ax ENd w base d.sl d.xs→∀ q,d.sl.ownBlock=some q→some g≠some q:=fun {d} hx q e r=>by
  injection r with r;subst r;exact aH hx h.own (show (145:Nat)≠142 by decide) _ e rfl
 refine h.Om hj hgc (h.own.put hj (by show i < 2;exact hi) hx) ⟨hd.1.far hgc (fun q e r=>hne2 hd.1 q e r),hd.2⟩ (fun x hx' =>⟨(hxs x hx').1.far hgc (fun q e r=>hne (hxs x hx').1 q e r),(hxs x hx').2⟩) (fun k hk hkj q e=>⟨fun r=>hne2 (h.nodes _ (List.getElem_mem hk)).1 q e r,hn k hk hkj q e⟩) (fun d hd' x hx' q e r=>hne (h.cO d hd' x hx').1 q e r)
theorem aC.SQ (h:aC w base v ds) {j:Nat} (hj:j < ds.length) {d' :Dm} (hv:ax EDv w' base v (ds.set j d')) (hd:ax ENd w' base d'.sl d'.xs∧d'.xs.length≤1000) (hx:∀ x∈d'.xs,ax EEn w' base x.sl x.nd.es∧jU x.nd)
   (ho:∀ i (hi:i < ds.length),i≠j→ax ENd w' base ds[i].sl ds[i].xs) (he:∀ d∈ds,∀ x∈d.xs,ax EEn w' base x.sl x.nd.es)
   (hn:∀ i (hi:i < ds.length),i≠j→∀ g,ds[i].sl.ownBlock=some g→d'.sl.ownBlock≠some g):aC w' base v (ds.set j d'):=by
 have hin:∀ d∈ds.set j d',d=d' ∨∃ i,∃ hi:i < ds.length,i≠j∧d=ds[i]:=fun d hd=>by
   obtain ⟨i,hi,e⟩:=List.getElem_of_mem hd;rw [List.length_set] at hi;rw [List.getElem_set] at e;split at e
   · exact .inl e.symm
   · rename_i hne;exact .inr ⟨i,hi,fun e=>hne e.symm,e.symm⟩
 refine ⟨hv,by rw [List.length_set];exact h.few,fun d hd' =>?_,fun d hd' x hx' =>?_,?_⟩
 · rcases hin d hd' with rfl | ⟨i,hi,hne,rfl⟩
   · exact hd
   · exact ⟨ho i hi hne,(h.nodes _ (List.getElem_mem hi)).2⟩
 · rcases hin d hd' with rfl | ⟨i,hi,hne,rfl⟩
   · exact hx x hx'
   · exact ⟨he _ (List.getElem_mem hi) x hx',(h.cO _ (List.getElem_mem hi) x hx').2⟩
 · have ha:=List.pairwise_iff_getElem.1 h.apart;refine List.pairwise_iff_getElem.2 fun i k hi hk hik g hgi hgk=>?_;rw [List.length_set] at hi hk;rw [List.getElem_set] at hgi hgk;split at hgi
   · split at hgk
     · omega
     · rename_i h1 h2;exact hn k hk (fun e=>h2 e.symm) g hgk hgi
   · split at hgk
     · rename_i h1 h2;exact hn i hi (fun e=>h1 e.symm) g hgi hgk
     · exact ha i k hi hk hik g hgi hgk
theorem aC.addN {g n c:Nat} (h:aC w base (.slice (some ⟨g,0,none⟩) n c) ds) {j:Nat} (hj:j < ds.length) {d:Dm} (hdj:d=ds[j]) {x:Nm} {A9:Option Addr} {n9 c9:Nat} (hn9:n9=(d.xs ++ [x]).length)
   (ho9:ax ENd w' base (.slice A9 n9 c9) (d.xs ++ [x])) (hg9:w.grownBy w' d.sl.ownBlock) (hat:(Value.slice A9 n9 c9).ownBlock=d.sl.ownBlock∨(Value.slice A9 n9 c9).ownBlock=some w.heap.size)
   (hl:d.xs.length≤999) (hx:x.nd.es= []∧x.A=none∧x.c=0) (hsz:jU x.nd):
   aC (w'.setCell ⟨g,j * 2+1,none⟩ (.slice A9 n9 c9)) base (.slice (some ⟨g,0,none⟩) n c) (ds.set j ⟨d.nx,d.xs ++ [x],A9,c9⟩):=by
 subst hdj;subst hn9;have hd:=h.nodes _ (List.getElem_mem hj);have hgc:=aL w' g (j * 2+1) (.slice A9 (ds[j].xs ++ [x]).length c9);have hv1:ax EDv w' base (.slice (some ⟨g,0,none⟩) n c) ds:=h.own.far hg9 fun k e r=>aH h.own hd.1 (show (142:Nat)≠145 by decide) k e r;have hv2:ax EDv (w'.setCell ⟨g,j * 2+1,none⟩ (.slice A9 (ds[j].xs ++ [x]).length c9)) base (.slice (some ⟨g,0,none⟩) n c) (ds.set j ⟨ds[j].nx,ds[j].xs ++ [x],A9,c9⟩):=hv1.put hj (by show 1 < 2;omega) rfl;have hne2:∀ {d:Dm},ax ENd w' base d.sl d.xs→ax ENd (w'.setCell ⟨g,j * 2+1,none⟩ (.slice A9 (ds[j].xs ++ [x]).length c9)) base d.sl d.xs:=fun {d} hx=>hx.far hgc fun q e r=>by
   injection r with r;subst r;exact aH hx hv1 (show (145:Nat)≠142 by decide) _ e rfl
 have hne1:∀ {y:Nm},ax EEn w base y.sl y.nd.es→ax EEn (w'.setCell ⟨g,j * 2+1,none⟩ (.slice A9 (ds[j].xs ++ [x]).length c9)) base y.sl y.nd.es:=fun {y} hy=>by
   have h1:=hy.far hg9 fun q e r=>aH hy hd.1 (show (209:Nat)≠145 by decide) q e r;exact h1.far hgc fun q e r=>by
     injection r with r;subst r;exact aH h1 hv1 (show (209:Nat)≠142 by decide) _ e rfl
 refine h.SQ hj hv2 ⟨hne2 (d:=⟨ds[j].nx,ds[j].xs ++ [x],A9,c9⟩) ho9,by show (ds[j].xs ++ [x]).length≤1000;rw [List.length_append,List.length_singleton];omega⟩ (fun y hy=>?_) (fun i hi hij=>hne2 ((h.nodes _ (List.getElem_mem hi)).1.far hg9 fun q e r=>h.other hi hj hij e r)) (fun d hdm y hy=>hne1 (h.cO d hdm y hy).1) (fun i hi hij q e r=>?_)
 · rcases List.mem_append.1 hy with hy | hy
   · exact ⟨hne1 (h.cO _ (List.getElem_mem hj) y hy).1,(h.cO _ (List.getElem_mem hj) y hy).2⟩
   · rw [List.mem_singleton.1 hy];obtain ⟨e1,e2,e3⟩:=hx;refine ⟨?_,hsz⟩;show ax EEn _ base (.slice x.A x.nd.es.length x.c) x.nd.es;rw [e1,e2,e3];exact ax.nil _ _
 · have r:(Value.slice A9 (ds[j].xs ++ [x]).length c9).ownBlock=some q:=r;rcases hat with h1 | h1
   · exact h.other hi hj hij e (by rw [← h1];exact r)
   · rw [h1] at r;injection r with r;have:=(h.nodes _ (List.getElem_mem hi)).1.lt q e;omega
end
structure Chg where
 dd:Int
 di:Int
 nm:ByteArray
 od:Int
 oi:Int
 nd:Int
 ni:Int
theorem Tryz.Hg:(Tryz.prog.info? 283).map (fun i=>(i.zero,i.size,i.bytes))=some (some (.agg #[.int .i64 0, .int .i64 0, .string ⟨#[]⟩, .int .i64 0, .int .i64 0, .int .i64 0, .int .i64 0]),7,64):=by kernel_rfl
abbrev chC (x:Chg):Array Value:=#[.int .i64 x.dd, .int .i64 x.di, .string x.nm, .int .i64 x.od, .int .i64 x.oi, .int .i64 x.nd, .int .i64 x.ni]
def DY:El Chg where
 C x:= [.int .i64 x.dd, .int .i64 x.di, .string x.nm, .int .i64 x.od, .int .i64 x.oi, .int .i64 x.nd, .int .i64 x.ni]
 e:=283
 sl:=55
 sz:=7
 bs:=64
 len _:=rfl
 one x u hu:=by simp at hu;rcases hu with rfl | rfl | rfl | rfl | rfl | rfl | rfl <;> rfl
 pos:=by omega
 small:=by omega
 hu:=Tryz.underlying55
 info:=by
  obtain ⟨i0,h1,h2,h3,h4⟩:=info_parts Tryz.Hg;exact ⟨i0,_,h1,h2,h3,h4,rfl⟩
theorem Hl {α:Type} (E:El α) (w:World) (base:Nat) (cs:Array Value) (x:α) (h:cs.toList=E.C x) (hb:base≤w.heap.size):ax E (w.alloc (.cells cs E.e)) base (.slice (some ⟨w.heap.size,0,none⟩) 1 1) [x]:=
 ⟨by simp [E.len], .inr ⟨w.heap.size,1,cs,rfl,hb,heap_alloc_new w _,Nat.le_refl _,by unfold maxLen;omega,by
  have:cs.size=(E.C x).length:=by rw [← h];simp
  rw [this,E.len];simp,by simp [h];exact List.take_of_length_le (by rw [E.len];exact Nat.le_refl _)⟩⟩
structure DrS (ws wr:World) (xs:List Nm) (t:Int) (q:Nat) (v:Value):Prop where
 low:Below ws.heap.size ws wr
 o:∃ (A:Option Addr) (c:Nat) (L:List Nm),v= .slice A L.length c∧ax ENd wr ws.heap.size v L∧L=(xs.take q).filter (fun x=> !(x.nd.ino == t))
theorem drop_take {xs:List Nm} {t:Int} {q:Nat} (hq:q < xs.length):(xs.take (q+1)).filter (fun x=> !(x.nd.ino == t))=(xs.take q).filter (fun x=> !(x.nd.ino == t)) ++ (if xs[q].nd.ino == t then [] else [xs[q]]):=by
 rw [List.take_succ_eq_append_getElem hq,List.filter_append];congr 1;cases h:xs[q].nd.ino == t <;> simp [h]
theorem Hm (xs:List Nm) (t:Int):(xs.filter (fun x=> !(x.nd.ino == t))).map (·.nd)=(xs.map (·.nd)).filter (fun n=> !(n.ino == t)):=by
 rw [List.filter_map];rfl
theorem Kz (j:Nat) (t:Int) (ds:List Dm) (A:Option Addr) (n c:Nat) (hn:n=ds.length) (hj:j < ds.length) (base:Nat) (w:World) (h:aC w base (.slice A n c) ds) (hbase:base≤w.heap.size):
  Calls Tryz.prog 230 #[fsV A n c,flV (j:Int) t] w fun e w' =>∃ ds' :List Dm,e= .returned (.tuple #[])∧aC w' base (.slice A n c) ds' ∧ds'.map Dm.dv=qj (ds.map Dm.dv) j t∧ds'.length=ds.length∧Below base w w' ∧∃ row,w.grownBy w' row∧∀ q,row=some q→(Value.slice A n c).ownBlock=some q∨∃ d∈ds,d.sl.ownBlock=some q:=by
 have HN:=Hd hn;have HB:=Hd hbase;have B0:=Hd (dI w #[.slice A n c] #[.int .i64 (j:Int), .int .i64 t] 28 44);have F0:=Hd (h.below B0.o);obtain ⟨A',c',eA,hat⟩:=F0.o.at;injection eA with eA eN eC;subst eA;clear eC eN c';have HL:=Hd (Hf (j:Int) t ds A n c hn _ hat);have V0:=Hd ((Blk.new w #[.slice A n c] 28).alloc (.cells #[.int .i64 (j:Int), .int .i64 t] 44));have U0:=Hd (show Blk ((w.alloc (.cells #[.slice A n c] 28)).alloc (.cells #[.int .i64 (j:Int), .int .i64 t] 44)) (w.heap.size+1) 44 #[.int .i64 (j:Int), .int .i64 t] by
  have h:=Blk.new (w.alloc (.cells #[.slice A n c] 28)) #[.int .i64 (j:Int), .int .i64 t] 44;simpa using h)
 have HD:=Hd (show qj (ds.map Dm.dv) (j:Int) t=if 0 < jE (ds.map Dm.dv) (j:Int) t then ds.map Dm.dv else oQ (ds.map Dm.dv) j (fun d=> { d with ns:=d.ns.filter (fun n=> !(n.ino == t)) }) from rfl);have HOLD:=Hd (show ∀ g,g < base→g < w.heap.size from fun g hg=>by omega);clear hn hat h hbase;go_in;go_wp2_with fail;generalize (w.alloc (.cells #[.slice A n c] 28)).alloc (.cells #[.int .i64 (j:Int), .int .i64 t] 44)=w0 at *;refine HL.o.mono ?_;rintro e w1 ⟨rfl,hb⟩;have B1:=Hd (B0.o.trans (hb.mono B0.o.size));have F1:=Hd (F0.o.below hb);have V1:=Hd (V0.o.below hb);have U1:=Hd (U0.o.below hb);clear hb HL B0 F0 V0 U0;by_cases hc:0 < jE (ds.map Dm.dv) (j:Int) t;case pos=>
  have HR:=Hd (HD.o.trans (if_pos hc));go_wp2_with fail;refine bodyPost_ret (results_none rfl _ _ _) rfl ?_;exact ⟨ds,rfl,F1.o,HR.o.symm,rfl,B1.o.mono HB.o,none,bE (World.grownBy.refl w none) B1.o,fun q e=>by cases e⟩
 case neg=>
  have HR:=Hd (HD.o.trans (if_neg hc));have HC:=Hd hc;have hc2:¬ jE (ds.map Dm.dv) (j:Int) t > 0:=hc;clear HD;have j1:(j:Int) < (n:Int):=by rw [HN.o];omega
  have j2:(0:Int)≤(j:Int):=by omega
  obtain ⟨g,hg0,hg1,hg2,hg4⟩:=iD F1.o.own (Nat.lt_of_le_of_lt (Nat.zero_le j) hj);clear hg4;subst hg0;have HD1:=Hd (F1.o.nodes ds[j] (List.getElem_mem hj));obtain ⟨ad,e0,hab,hcx⟩:=bB F1.o.own j hj;injection e0 with e0;subst e0;obtain ⟨s0,s1⟩:=bO (a:=(⟨g,0,none⟩:Addr).add (j * 2)) hcx;rw [bV] at s1;replace s1:w1.cell? ⟨g,j * 2+1,none⟩=some (.slice ds[j].A ds[j].xs.length ds[j].c):=s1;clear s0;have v0:=V1.o.cell 0;have u0:=U1.o.cell 0;clear hcx hc;obtain ⟨d,hd⟩:∃ d,d=ds[j]:=⟨_,rfl⟩;have HDJ:=Hd hd;rw [← hd] at HD1 s1;clear hd;go_wp2_with fail;clear v0 u0;have S0:=Hd (show DrS w1 w1 d.xs t 0 (.slice none 0 0) from ⟨Below.refl _ _,none,0, [],rfl,ax.nil _ _,rfl⟩);have HS1:=Hd s1;clear s1;go_loopw [4,6] (fun v i wr=>∃ q:Nat,q≤d.xs.length∧i= .int .i64 q∧Hid (DrS w1 wr d.xs t q v)) (fun _ i _=>d.xs.length - (intOf i).toNat);case atStart=>exact ⟨0,Nat.zero_le _,rfl,S0⟩
  case round=>
   clear S0;obtain ⟨q,hq,rfl,HS⟩:=hrel;obtain ⟨Av,cv,L,rfl,hvo,hL⟩:=HS.o.o;have hlen:=HD1.o.2;have WQ:=Hd (bW hq (by omega));have HLL:=Hd (show L.length≤1000 by rw [hL];exact Nat.le_trans (List.length_filter_le _ _) (by rw [List.length_take];omega));by_cases hlt:q < d.xs.length;case pos=>
    have q1:(q:Int) < (d.xs.length:Int):=(by omega);have q2:(0:Int)≤(q:Int):=(by omega);obtain ⟨bd,hbd,hbb,hcy⟩:=bB HD1.o.1 q hlt;have HCY:=Hd (show ∀ k,k < 8→wr.cell? ((bd.add (q * 8)).add k)=(ENd.C d.xs[q])[k]? from fun k hk=>by
     rw [← hcy k hk];exact HS.o.low.cell (by rw [aj,aj];exact hbb))
    have HTK:=Hd (drop_take (t:=t) hlt);rw [← hL] at HTK;obtain ⟨t0,t1,t2,t3,t4,t5,t6,t7⟩:=dE (a:=bd.add (q * 8)) HCY.o;have u1:=(U1.o.below HS.o.low).cell 1;have VO:=Hd hvo;have hgw:w1.heap.size≤wr.heap.size:=HS.o.low.size;clear hvo hL hlen hcy;generalize d.xs[q]=x at *;rw [hbd];cases hb:(x.nd.ino == t) with
    | true=>
     have HN:=Hd (show DrS w1 wr d.xs t (q+1) (.slice Av L.length cv) from ⟨HS.o.low,Av,cv,L,rfl,VO.o,by rw [HTK.o,hb];simp⟩);have hb2:(x.nd.ino != t)=false:=(by rw [bne,hb];rfl);clear HTK hb;go_upto_region 7 with fail;go_quiet (fail);obtain ⟨wq1,wq2⟩:=WQ.o;go_wp2_with fail;clear wq1 wq2;go_roundw;case rel=>exact ⟨q+1,hlt,rfl,Hd ⟨below_drewN HN.o.low _,HN.o.o⟩⟩
     case measure=>exact bq hlt _ rfl
    | false=>
     have hb2:(x.nd.ino != t)=true:=(by rw [bne,hb];rfl);have SS:=Hd (show ((d.xs.take (q+1)).filter (fun x=> !(x.nd.ino == t)))=L ++ [x] by rw [HTK.o,hb];rfl);clear HTK hb;go_upto_region 7 with fail;go_quiet (fail);have yH:=Hd (below_drewN HS.o.low nq);have VO2:=Hd (show ax ENd (wr.drewN nq) w1.heap.size (.slice Av L.length cv) L from VO.o);have UR:w1.heap.size≤(wr.drewN nq).heap.size:=hgw;go_upto_region 8 with fail;obtain ⟨t0,t1,t2,t3,t4,t5,t6,t7⟩:=show (wr.drewN nq).cell? (bd.add (q * 8))=some (.int .i64 x.nd.ino)∧_∧_∧_∧_∧_∧_∧_ from dE (w:=wr.drewN nq) (x:=x) (a:=bd.add (q * 8)) HCY.o;generalize wr.drewN nq=w3 at *;have RW:=Hd (aM ENd w3 (ndC x.nd (.slice x.A x.nd.es.length x.c)) 145 x rfl (Nat.lt_succ_self w3.heap.size));have VO3:=Hd (VO2.o.alloc (.cells (ndC x.nd (.slice x.A x.nd.es.length x.c)) 145));have KA:=Hd (yH.o.alloc yH.o.size (.cells (ndC x.nd (.slice x.A x.nd.es.length x.c)) 145));go_wp2_with (at_builtin;refine ah ENd rfl (.tmp 32) (.tmp 37) rfl w1.heap.size (.slice Av L.length cv) L rfl VO3.o (w3.heap.size+1) (some ⟨w3.heap.size,0,none⟩) 1 1 [x] rfl rfl RW.o (by have:=HLL.o;simp;omega) (by simp;omega) ?_);intro v9 w9 ho9 hg9 DU;obtain ⟨A9,c9,e9,_⟩:=ho9.at;rw [show (L ++ [x]).length=L.length+1 by simp] at e9;subst e9;have HN9:=Hd (show DrS w1 w9 d.xs t (q+1) (.slice A9 (L.length+1) c9) from ⟨KA.o.grown hg9 KA.o.size (fun k e=>VO3.o.ge k e),A9,c9,L ++ [x],by simp,ho9,SS.o.symm⟩);clear ho9 hg9 DU;obtain ⟨wq1,wq2⟩:=WQ.o;go_wp2_with fail;clear wq1 wq2;go_roundw;case rel=>exact ⟨q+1,hlt,rfl,HN9⟩
     case measure=>exact bq hlt _ rfl
   case neg=>
    have q1:¬ (q:Int) < (d.xs.length:Int):=(by omega);have hL2:L=d.xs.filter (fun x=> !(x.nd.ino == t)):=(by rw [hL,List.take_of_length_le (by omega)]);have hlow:=HS.o.low;have F2:=F1.o.below hlow;have hVo:=hvo;have v0:=(V1.o.below hlow).cell 0;have u0:=(U1.o.below hlow).cell 0;have s1:=(hlow.cell (p:=⟨g,j * 2+1,none⟩) hg2).trans HS1.o;have sf:=F2.own.free (j * 2+1);have hgv:∀ q,(Value.slice Av L.length cv).ownBlock=some q→w1.heap.size≤q:=fun q e=>hvo.ge q e;have hFS:=F2.QW (j:=j) (i:=1) (u:= .slice Av L.length cv) (d' :=⟨d.nx,L,Av,cv⟩) hj (by omega) (by rw [← HDJ.o];rfl) ⟨hvo.low (Nat.le_trans (by have:=HB.o;omega) (Nat.le_of_lt (Nat.lt_of_le_of_lt hg1 hg2))),HLL.o⟩
     (fun x hx=>by
      rw [hL2] at hx;exact F2.cO ds[j] (List.getElem_mem hj) x (by rw [← HDJ.o];exact (List.mem_filter.1 hx).1))
     (fun k hk hkj q e r=>by
      have h1:=(F1.o.nodes ds[k] (List.getElem_mem hk)).1.lt q e;have h2:=hgv q r;omega)
    have HFS:=Hd hFS;have HON:=Hd (bE (bE (World.grownBy.refl w (some g)) B1.o) hlow);have HLW:=Hd ((B1.o.trans (hlow.mono B1.o.size)).mono HB.o);have HL2:=Hd (show (ds.set j (⟨d.nx,L,Av,cv⟩:Dm)).map Dm.dv=oQ (ds.map Dm.dv) j (fun d=> { d with ns:=d.ns.filter (fun n=> !(n.ino == t)) }) from kM ds j hj _ _ (by
     rw [← HDJ.o,hL2];show (⟨d.nx,(d.xs.filter (fun x=> !(x.nd.ino == t))).map (·.nd)⟩:Dv)=⟨d.nx,(d.xs.map (·.nd)).filter (fun n=> !(n.ino == t))⟩;rw [Hm]))
    clear hFS hVo hvo hL hL2 hlow F2 hlen hgv;go_wp2_with fail;refine bodyPost_end (results_none rfl _ _ _) rfl ?_;exact ⟨rfl,_,HFS.o,HL2.o.trans HR.o.symm,by rw [List.length_set],HLW.o.setCell (p:=⟨g,j * 2+1,none⟩) hg1 _,some g,ag HON.o (.inl rfl) _,fun q e=> .inl (by injection e with e;subst e;rfl)⟩
theorem FOk.new {n:Nat} (h1:1≤n) (h3:n≤3):FOk (List.replicate n ⟨2, [⟨1,2,493,0,0,1,⟨#[]⟩, []⟩]⟩):=by
 refine ⟨by simpa using h1,by simpa using h3,fun d hd=>?_⟩;rw [(List.mem_replicate.1 hd).2];have hm:∀ {n:Nd},n∈ [(⟨1,2,493,0,0,1,⟨#[]⟩, []⟩:Nd)]→n=⟨1,2,493,0,0,1,⟨#[]⟩, []⟩:=fun h=>List.mem_singleton.1 h;refine ⟨by decide,by decide,by decide,⟨_,_,rfl,rfl,rfl⟩,by decide,?_,?_,?_,?_,?_,?_⟩
 · intro n hn;rw [hm hn];decide
 · intro n hn;rw [hm hn];decide
 · intro n hn;rw [hm hn];exact ⟨by decide,by decide,fun e he=>by cases he⟩
 · intro n hn _ p hp e he;rw [hm hp] at he;cases he
 · intro n hn _ h1;rw [hm hn] at h1;exact absurd rfl h1
 · intro n hn _;rw [hm hn];exact ⟨0, .root⟩
structure Mt where
 dev:Int
 od:Int
 oi:Int
def onF (ms:List Mt) (dev:Int):Option (Int×Int):=(ms.find? (fun m=>m.dev == dev)).map (fun m=>(m.od,m.oi))
def iH (ms:List Mt) (dev:Int):Bool:=(onF ms dev).isSome || dev == 0
def FJ (ms:List Mt) (d i:Int):Option Int:=(ms.find? (fun m=>m.od == d && m.oi == i)).map (·.dev)
inductive MOk (f:List Dv):List Mt→Prop
 | nil:MOk f []
 | app {ms:List Mt} {m:Mt} :MOk f ms→1≤m.dev→m.dev < f.length→iH ms m.dev=false→iH ms m.od=true→dz f m.od m.oi=true→MOk f (ms ++ [m])
theorem qm (ms:List Mt) (m:Mt) (dev:Int):onF (ms ++ [m]) dev=(onF ms dev).or (if m.dev == dev then some (m.od,m.oi) else none):=by
 unfold onF;rw [List.find?_append];cases ms.find? (fun m=>m.dev == dev) with
 | some x=>rfl
 | none=>
  rw [Option.none_or,Option.map_none,Option.none_or,List.find?_cons];cases m.dev == dev <;> rfl
theorem MOk.zero {f:List Dv} {ms:List Mt} (h:MOk f ms):onF ms 0=none:=by
 induction h with
 | nil=>rfl
 | @app ms m _ h1 _ _ _ _ ih=>
  rw [qm,ih];have:(m.dev == 0)=false:=by simp;omega
  rw [this];rfl
theorem MOk.len {f:List Dv} {ms:List Mt} (h:MOk f ms):(ms.map (·.dev)).Nodup∧∀ m∈ms,1≤m.dev∧m.dev < f.length:=by
 induction h with
 | nil=>exact ⟨by simp,fun _ h=>by cases h⟩
 | @app ms m _ h1 h2 h3 _ _ ih=>
  refine ⟨?_,fun x hx=>?_⟩
  · rw [List.map_append,List.nodup_append];refine ⟨ih.1,by simp,fun a ha b hb=>?_⟩;have hb:b=m.dev:=(by simpa using hb);obtain ⟨x,hx,e⟩:=List.mem_map.1 ha;intro e2;unfold iH onF at h3;rw [Bool.or_eq_false_iff] at h3;have h4:=h3.1;rw [Option.isSome_map] at h4;have:=List.find?_eq_none.1 (Option.isSome_eq_false_iff.1 h4 |> Option.isNone_iff_eq_none.1) x hx;rw [show x.dev=a from e,e2,hb] at this;simp at this
  · rcases List.mem_append.1 hx with hx | hx
    · exact ih.2 x hx
    · rw [List.mem_singleton.1 hx];exact ⟨h1,h2⟩
theorem MOk.few {f:List Dv} {ms:List Mt} (h:MOk f ms) (hf:f.length≤3):ms.length≤2:=by
 obtain ⟨h1,h2⟩:=h.len;have:=kR h1 (M:= [1,2]) (fun x hx=>by
  obtain ⟨m,hm,e⟩:=List.mem_map.1 hx;have:=h2 m hm;rw [show m.dev=x from e] at this;have:x=1∨x=2:=by omega
  simpa using this)
 simpa using this
theorem wR (ms:List Mt) (m:Mt) (dev:Int):iH (ms ++ [m]) dev=(iH ms dev || m.dev == dev):=by
 unfold iH;rw [qm];cases onF ms dev <;> cases m.dev == dev <;> cases dev == 0 <;> rfl
def fT (f:List Dv) (dev ino:Int):ByteArray:=
 match (match aG f dev (upF f dev ino) with | some p=>p.es.find? (fun e:En=>e.ino == ino) | none=>none) with
 | some e=>e.nm
 | none=>⟨#[]⟩
inductive Way (f:List Dv) (ms:List Mt):Int→Int→List ByteArray→Prop
 | top:onF ms 0=none→dz f 0 1=true→Way f ms 0 1 []
 | over {dev a b:Int} {L:List ByteArray} :dz f dev 1=true→onF ms dev=some (a,b)→Way f ms a b L→Way f ms dev 1 L
 | step {dev ino:Int} {n:Nd} {L:List ByteArray} :aG f dev ino=some n→n.kind=2→ino≠1→iH ms dev=true→Way f ms dev n.par L→Way f ms dev ino (L ++ [fT f dev ino])
theorem FOk.root {f:List Dv} (h:FOk f) {dev:Int} {d:Dv} (hd:iT f dev=some d):dz f dev 1=true:=by
 have hok:=h.2.2 d (df hd);obtain ⟨n,r,e,e1,e2⟩:=hok.root;have hn:n∈d.ns:=by rw [e];exact List.mem_cons_self ..
 have:=kv hd hok.uniq hn;rw [e1] at this;unfold dz;rw [this];simpa using e2
theorem qo {f:List Dv} {dev i:Int} (h:dz f dev i=true):∃ d n,iT f dev=some d∧n∈d.ns∧n.ino=i∧n.kind=2∧aG f dev i=some n:=by
 obtain ⟨n,hn,hk⟩:=mh h;obtain ⟨d,hd,hm,hi⟩:=aT hn;exact ⟨d,n,hd,hm,hi,hk,hn⟩
def SOk (f:List Dv) (ms:List Mt):Prop:=FOk f∧MOk f ms
theorem kV {f:List Dv} (h:FOk f) (dev ino:Int):(fT f dev ino).size≤12:=by
 unfold fT;split
 · rename_i e he;split at he
   · rename_i p hp;obtain ⟨d,hd,hm,_⟩:=aT hp;have hok:=h.2.2 d (df hd);have:=((hok.cO p hm).2.2 e (List.mem_of_find?_eq_some he)).2.2;unfold fQ at this;simp only [Bool.and_eq_true,decide_eq_true_eq] at this;exact this.1.1.1.2
   · cases he
 · decide
inductive mq (f:List Dv) (ms:List Mt):Nat→Int→Int→List ByteArray→Prop
 | top:onF ms 0=none→dz f 0 1=true→mq f ms 1 0 1 []
 | over {h:Nat} {dev a b:Int} {L:List ByteArray} :dz f dev 1=true→dev≠0→onF ms dev=some (a,b)→mq f ms h a b L→mq f ms (h+1) dev 1 L
 | step {h:Nat} {dev ino:Int} {n:Nd} {L:List ByteArray} :aG f dev ino=some n→n.kind=2→ino≠1→iH ms dev=true→mq f ms h dev n.par L→mq f ms (h+1) dev ino (L ++ [fT f dev ino])
theorem Way.high {f:List Dv} {ms:List Mt} (h0:onF ms 0=none) {dev ino:Int} {L:List ByteArray} (h:Way f ms dev ino L):∃ k,mq f ms k dev ino L:=by
 induction h with
 | top h1 h2=>exact ⟨1, .top h1 h2⟩
 | over h1 h2 _ ih=>
  obtain ⟨k,hk⟩:=ih;exact ⟨k+1, .over h1 (fun e=>by rw [e,h0] at h2;cases h2) h2 hk⟩
 | step h1 h2 h3 h4 _ ih=>
  obtain ⟨k,hk⟩:=ih;exact ⟨k+1, .step h1 h2 h3 h4 hk⟩
def Aq (f:List Dv) (dev:Int):Nat:=match iT f dev with | some d=>d.ns.length | none=>0
theorem mq.pos {f:List Dv} {ms:List Mt} {k:Nat} {dev ino:Int} {L:List ByteArray} (h:mq f ms k dev ino L):1≤k:=by
 cases h <;> omega
theorem mq.mono {f:List Dv} {ms:List Mt} {m:Mt} (hm:iH ms m.dev=false) {k:Nat} {dev ino:Int} {L:List ByteArray} (h:mq f ms k dev ino L):mq f (ms ++ [m]) k dev ino L:=by
 have h0:∀ x,iH ms x=true→onF (ms ++ [m]) x=onF ms x:=fun x hx=>by
  rw [qm];have:(m.dev == x)=false:=by
   cases hq:m.dev == x with
   | false=>rfl
   | true=>
    have e:m.dev=x:=(by simpa using hq);rw [e,hx] at hm;cases hm
  rw [this];cases onF ms x <;> rfl
 induction h with
 | top h1 h2=>exact .top (by rw [h0 0 (by unfold iH;simp)];exact h1) h2
 | over h1 hz h2 _ ih=>exact .over h1 hz (by rw [h0 _ (by unfold iH;rw [h2];rfl)];exact h2) ih
 | step h1 h2 h3 h4 _ ih=>exact .step h1 h2 h3 (by rw [wR,h4];rfl) ih
theorem xZ {f:List Dv} {ms:List Mt} {dev:Int} {d:Dv} (hd:iT f dev=some d) (hu:(d.ns.map (·.ino)).Nodup) (hm:iH ms dev=true) {h:Nat} {L0:List ByteArray} (h0:mq f ms h dev 1 L0) {k:Nat} {i:Int} (hk:gY d.ns k i):∃ L,mq f ms (h+k) dev i L∧L.length=L0.length+k:=by
 induction hk with
 | root=>exact ⟨L0,h0,rfl⟩
 | @up n k hn hk h1 _ ih=>
  obtain ⟨L,hL,hl⟩:=ih;exact ⟨_, .step (kv hd hu hn) hk h1 hm hL,by rw [List.length_append,hl];rfl⟩
theorem MOk.KD {f:List Dv} (hf:FOk f) {ms:List Mt} (h:MOk f ms):∀ {dev ino:Int},iH ms dev=true→dz f dev ino=true→∃ L k,mq f ms k dev ino L∧L.length≤15 * (ms.length+1)∧k≤Aq f 0+(ms.map (fun m=>Aq f m.dev)).sum:=by
 have hgo:∀ {ms:List Mt} {dev ino:Int} {h:Nat} {L0:List ByteArray},iH ms dev=true→mq f ms (h+1) dev 1 L0→dz f dev ino=true→∃ L k,mq f ms k dev ino L∧L.length≤L0.length+15∧k≤h+Aq f dev:=fun {ms dev ino h L0} hm h0 hd=>by
  obtain ⟨d,n,hdd,hn,rfl,hk,_⟩:=qo hd;have hok:=hf.2.2 d (df hdd);obtain ⟨k,hk'⟩:=hok.reach n hn hk;obtain ⟨L,h1,h2⟩:=xZ hdd hok.uniq hm h0 hk';have h3:=wP hok.uniq hok.Ko hk';have h4:=hok.few;have h5:Aq f dev=d.ns.length:=by unfold Aq;rw [hdd]
  exact ⟨L,_,h1,by omega,by omega⟩
 induction h with
 | nil=>
  intro dev ino hm hd;have:dev=0:=by
   have:(dev == 0)=true:=hm;simpa using this
  subst this;obtain ⟨d,_,hdd,_⟩:=qo hd;obtain ⟨L,k,h1,h2,h3⟩:=hgo (h:=0) (L0:= []) hm (.top rfl (hf.root hdd)) hd;exact ⟨L,k,h1,by simpa using h2,by simpa using h3⟩
 | @app ms m hms h1 h2 h3 h4 h5 ih=>
  intro dev ino hm hd;rw [List.length_append,List.length_singleton,List.map_append,List.sum_append];cases ho:iH ms dev with
  | true=>
   obtain ⟨L,k,h6,h7,h8⟩:=ih ho hd;exact ⟨L,k,h6.mono h3,by omega,by omega⟩
  | false=>
   have e:m.dev=dev:=by
    rw [wR,ho,Bool.false_or] at hm;simpa using hm
   obtain ⟨L,k,h6,h7,h8⟩:=ih h4 h5;obtain ⟨d,_,hdd,_⟩:=qo hd;have hon:onF (ms ++ [m]) dev=some (m.od,m.oi):=by
    rw [qm,e];have:onF ms dev=none:=by
     unfold iH at ho;rw [Bool.or_eq_false_iff] at ho;exact Option.isNone_iff_eq_none.1 (Option.isSome_eq_false_iff.1 ho.1)
    rw [this];simp
   obtain ⟨L2,k2,h9,h10,h11⟩:=hgo (ino:=ino) hm (.over (hf.root hdd) (by omega) hon (h6.mono h3)) hd;refine ⟨L2,k2,h9,by omega,?_⟩;have e2:(List.map (fun m=>Aq f m.dev) [m]).sum=Aq f dev:=(by simp [e]);omega
theorem Ar {g:Int→Nat} :∀ {L M:List Int},L.Nodup→(∀ x∈L,x∈M)→(L.map g).sum≤(M.map g).sum
 | [],_,_,_=>Nat.zero_le _
 | a :: L,M,h,hs=>by
  rw [List.nodup_cons] at h;have ha:=hs a (List.mem_cons_self ..);have h2:∀ x∈L,x∈M.erase a:=fun x hx=>(List.mem_erase_of_ne (fun e=>h.1 (by rw [← e];exact hx))).2 (hs x (List.mem_cons_of_mem _ hx));have h3:=Ar (g:=g) h.2 h2;have h4:(M.map g).sum=g a+((M.erase a).map g).sum:=by
   have hp:=(List.perm_cons_erase ha).map g;have:=hp.sum_nat;rw [this,List.map_cons,List.sum_cons]
  rw [List.map_cons,List.sum_cons,h4];omega
def CK (f:List Dv):Nat:=(f.map (fun d=>d.ns.length)).sum
theorem Hq (f:List Dv):CK f=(((List.range f.length).map Int.ofNat).map (Aq f)).sum:=by
 unfold CK;rw [List.map_map];congr 1;apply List.ext_getElem
 · simp
 · intro i h1 h2;simp only [List.length_map,List.length_range] at h1 h2;rw [List.getElem_map,List.getElem_map,List.getElem_range];show _=Aq f (Int.ofNat i);unfold Aq iT;rw [if_neg (by simp)];have:(Int.ofNat i).toNat=i:=rfl;rw [this,List.getElem?_eq_getElem h1]
theorem SOk.KD {f:List Dv} {ms:List Mt} (h:SOk f ms) {dev ino:Int} (hm:iH ms dev=true) (hd:dz f dev ino=true):∃ L k,mq f ms k dev ino L∧L.length≤45∧k≤CK f:=by
 obtain ⟨L,k,h1,h2,h3⟩:=h.2.KD h.1 hm hd;have h4:=h.2.few h.1.2.1;obtain ⟨h5,h6⟩:=h.2.len;refine ⟨L,k,h1,by omega,Nat.le_trans h3 ?_⟩;rw [Hq];have:=Ar (g:=Aq f) (L:=0 :: ms.map (·.dev)) (M:=(List.range f.length).map Int.ofNat) (List.nodup_cons.2 ⟨fun hm0=>by
  obtain ⟨m,hmm,e⟩:=List.mem_map.1 hm0;have:=(h6 m hmm).1;omega,h5⟩) (fun x hx=>by
  rcases List.mem_cons.1 hx with rfl | hx
  · exact List.mem_map.2 ⟨0,List.mem_range.2 h.1.1,rfl⟩
  · obtain ⟨m,hmm,e⟩:=List.mem_map.1 hx;have:=h6 m hmm;exact List.mem_map.2 ⟨x.toNat,List.mem_range.2 (by omega),by show ((x.toNat:Nat):Int)=x;omega⟩)
 rw [List.map_cons,List.sum_cons,List.map_map] at this;exact this
def iI (d n:ByteArray):ByteArray:=if (decide (0 < d.size) && (d.data.toList.getLast? == some 47))=true then d ++ n else d ++ ⟨#[47]⟩ ++ n
theorem o6 (d n:ByteArray):(iI d n).size≤d.size+1+n.size:=by
 unfold iI;split
 · rw [ByteArray.size_append];omega
 · rw [ByteArray.size_append,ByteArray.size_append];have:(⟨#[47]⟩:ByteArray).size=1:=rfl;omega
def jO (L:List ByteArray):ByteArray:=L.foldl iI ⟨#[47]⟩
theorem o7 (L:List ByteArray) (x:ByteArray):jO (L ++ [x])=iI (jO L) x:=by
 unfold jO;rw [List.foldl_append];rfl
theorem gD:∀ (L:List ByteArray) (d:ByteArray),(∀ x∈L,x.size≤12)→(L.foldl iI d).size≤d.size+13 * L.length
 | [],d,_=>by simp
 | a :: L,d,h=>by
  have h1:=gD L (iI d a) (fun x hx=>h x (List.mem_cons_of_mem _ hx));have h2:=o6 d a;have h3:=h a (List.mem_cons_self ..);rw [List.foldl_cons,List.length_cons];omega
theorem kW {L:List ByteArray} (h:∀ x∈L,x.size≤12) (hl:L.length≤45):(jO L).size≤586:=by
 have:=gD L ⟨#[47]⟩ h;have e:(⟨#[47]⟩:ByteArray).size=1:=rfl;unfold jO;omega
theorem mq.names {f:List Dv} (hf:FOk f) {ms:List Mt} {k:Nat} {dev ino:Int} {L:List ByteArray} (h:mq f ms k dev ino L):∀ x∈L,x.size≤12:=by
 induction h with
 | top=>intro x hx;cases hx
 | over _ _ _ _ ih=>exact ih
 | step _ _ _ _ _ ih=>
  intro x hx;rcases List.mem_append.1 hx with hx | hx
  · exact ih x hx
  · rw [List.mem_singleton.1 hx];exact kV hf _ _
end Go.Proofs.YtollifnnpihfdaaGreatDoor
