import Derived.Deep.DrawnRows
import Derived.Lib.MapLaws
import Derived.Test.YtollifnnpihfdaaGreatDoorW19
set_option maxRecDepth 100000
set_option maxHeartbeats 64000000
set_option linter.all false
namespace Go.Proofs.YtollifnnpihfdaaGreatDoor
open Go.RowKit
theorem fE {P:Program} {ops:Array Oper} {o:Oper} {a:Act} {w:World} {K:Act→World→Prop} {Q:Exit→Act→World→Prop} {F:Prop} (hgd:o.guard=none) (t:TypeId) (parts:Array (Nat×Operand)) (ho:o.op= .build t parts)
  (cells:Array Value) (hf:P.built t (parts.map fun (i,x)=>(i,a.eval x)).toList=some cells) (h:K (a.put o.dst (.agg cells)) w):
  if Region.wanted o (yielded ops a.tmps)=true then Oper.wp P o a w K Q else F:=by
 have hw:Region.wanted o (yielded ops a.tmps)=true:=by simp [Region.wanted,hgd]
 rw [if_pos hw];exact wp_build t parts ho (by rw [hf];rfl) (by rw [hf];exact h)
theorem ag {P:Program} {ops:Array Oper} {o:Oper} {a:Act} {w:World} {K:Act→World→Prop} {Q:Exit→Act→World→Prop} {F:Prop} (hgd:o.guard=none) (ty:TypeId) (x y:Operand) (ho:o.op= .store ty x y)
  {g:Nat} {t:TypeId} {old:Array Value} (hg:Blk w g t old) (cells:Array Value) (hx:a.eval x= .pointer (some ⟨g,0,none⟩)) (hy:a.eval y= .agg cells)
  (hi:(P.info? ty).map (·.size)=some cells.size) (hold:old.size=cells.size) (h1:cells.all (·.oneCell')=true) (h:K (a.put o.dst undef) (w.setRow g cells)):
  if Region.wanted o (yielded ops a.tmps)=true then Oper.wp P o a w K Q else F:=by
 have hw:Region.wanted o (yielded ops a.tmps)=true:=by simp [Region.wanted,hgd]
 rw [if_pos hw];exact wp_store_row ty x y ho g cells hx hy t old hg hi hold h1 h
theorem kr (w:World) (base:Nat) (ty:TypeId) (v:Value) (L:List ByteArray) (B:Nat) (A:Option Addr) (n c:Nat) (ss:List ByteArray) (hn:n=ss.length) (hown:bG w base v L) (hr:bB w B A ss) (hlen:L.length+ss.length≤1000000) (hbase:base≤w.heap.size):
   ∃ v' w',(Builtin.append_ #[49,49] ty #[v, .slice A n c]).run Tryz.prog w= .ok v' w' ∧bG w' base v' (L ++ ss)∧w.grownBy w' v.ownBlock∧(v'.ownBlock=v.ownBlock∨v'.ownBlock=some w.heap.size):=by
 subst hn;obtain ⟨i0,hi,hz0,hz1,hz2⟩:=info_parts Tryz.Ez;have h:=hown.o;rcases A with _ | ad
 · have hss:ss= []:=by
     cases ss with
     | nil=>rfl
     | cons s r=>obtain ⟨ad,e,_⟩:=hr 0 (by simp);cases e
   subst hss;refine ⟨v,w,?_,by simpa using hown,World.grownBy.refl w _, .inl rfl⟩;rcases h.2 with ⟨rfl,_⟩ | ⟨g,cap,cur,rfl,_,_,hnc,_⟩
   · simp [Builtin.append_,run_underlying Tryz.underlying49,sizeOf,typeInfo,hi,Builtin.lenOf,Builtin.firstCells]
   · simp [Builtin.append_,run_underlying Tryz.underlying49,sizeOf,typeInfo,hi,Builtin.lenOf,Builtin.firstCells,hnc,storeCells]
 · obtain ⟨v',w',hrun,h2,h3,_,h5⟩:=run_append_own_at (P:=Tryz.prog) w base 49 ty 9 i0 _ 1 16 Tryz.underlying49 hi hz0 hz1 hz2 rfl (by omega) v L.length _ h ad ss.length c (ss.map Value.string) (by simp) (fun j u hu=>by
     have hj:j < ss.length:=(by have:=(List.getElem?_eq_some_iff.1 hu).1;simpa using this);obtain ⟨ad',e,_,hc⟩:=hr j hj;cases e;rw [hc, ← hu,List.getElem?_map,List.getElem?_eq_getElem hj];rfl) (by
     intro u hu;obtain ⟨s,_,rfl⟩:=List.mem_map.1 hu;rfl) (by unfold maxLen;omega) (by omega) hbase
   refine ⟨v',w',hrun,?_,h3,h5⟩;show w'.ownsRow base 9 1 v' (L ++ ss).length ((L ++ ss).map Value.string);simpa using h2
theorem ic {o:Oper} {a:Act} {w:World} {K:Act→World→Prop} {Q:Exit→Act→World→Prop} (s x:Operand) (ho:o.op= .call { callee:= .builtin .append,args:=#[s,x],argTypes:=#[49,49] })
  (base:Nat) (v:Value) (L:List ByteArray) (hs:a.eval s=v) (hown:bG w base v L) (B:Nat) (A:Option Addr) (n c:Nat) (ss:List ByteArray) (hx:a.eval x= .slice A n c) (hn:n=ss.length) (hr:bB w B A ss) (hlen:L.length+ss.length≤1000000) (hbase:base≤w.heap.size)
  (h:∀ v' w',bG w' base v' (L ++ ss)→w.grownBy w' v.ownBlock→(v'.ownBlock=v.ownBlock∨v'.ownBlock=some w.heap.size)→K (a.put o.dst v') w'):o.wp Tryz.prog a w K Q:=by
 obtain ⟨v',w',hrun,h2,h3,h4⟩:=kr w base o.type v L B A n c ss hn hown hr hlen hbase;unfold Oper.wp execOp;simp only [ho,resolve,invoke,builtin,Sem.run_bind,Sem.run_pure,Result.andThen_ok,List.map_toArray,List.map_cons,List.map_nil,hs,hx,hrun];exact h v' w' h2 h3 h4
theorem eH {ops:Array Oper} {rest:List Oper} {o:Oper} {a:Act} {w:World} {Q:Exit→Act→World→Prop} (hgd:o.guard=none) (s x:Operand) (ho:o.op= .call { callee:= .builtin .append,args:=#[s,x],argTypes:=#[49,49] })
  (base:Nat) (v:Value) (L:List ByteArray) (hs:a.eval s=v) (hown:bG w base v L) (B:Nat) (A:Option Addr) (n c:Nat) (ss:List ByteArray) (hx:a.eval x= .slice A n c) (hn:n=ss.length) (hr:bB w B A ss) (hlen:L.length+ss.length≤1000000) (hbase:base≤w.heap.size)
  (h:∀ v' w',bG w' base v' (L ++ ss)→w.grownBy w' v.ownBlock→(v'.ownBlock=v.ownBlock∨v'.ownBlock=some w.heap.size)→wpList Tryz.prog ops Q rest (a.put o.dst v') w'):wpList Tryz.prog ops Q (o :: rest) a w:=
 wpList_plain hgd fun _ hK=>ic s x ho base v L hs hown B A n c ss hx hn hr hlen hbase fun v' w' h2 h3 h4=>hK _ _ (h v' w' h2 h3 h4)
theorem dJ {ops:Array Oper} {o:Oper} {a:Act} {w:World} {K:Act→World→Prop} {Q:Exit→Act→World→Prop} {E:Prop} (hgd:o.guard=none) (s x:Operand) (ho:o.op= .call { callee:= .builtin .append,args:=#[s,x],argTypes:=#[49,49] })
  (base:Nat) (v:Value) (L:List ByteArray) (hs:a.eval s=v) (hown:bG w base v L) (B:Nat) (A:Option Addr) (n c:Nat) (ss:List ByteArray) (hx:a.eval x= .slice A n c) (hn:n=ss.length) (hr:bB w B A ss) (hlen:L.length+ss.length≤1000000) (hbase:base≤w.heap.size)
  (h:∀ v' w',bG w' base v' (L ++ ss)→w.grownBy w' v.ownBlock→(v'.ownBlock=v.ownBlock∨v'.ownBlock=some w.heap.size)→K (a.put o.dst v') w'):
  if Region.wanted o (yielded ops a.tmps)=true then Oper.wp Tryz.prog o a w K Q else E:=by
 have hw:Region.wanted o (yielded ops a.tmps)=true:=by simp [Region.wanted,hgd]
 rw [if_pos hw];exact ic s x ho base v L hs hown B A n c ss hx hn hr hlen hbase h
theorem bG.ge {w:World} {base:Nat} {v:Value} {L:List ByteArray} (h:bG w base v L):∀ r,v.ownBlock=some r→base≤r:=fun r hr=>(World.ownsRow.lt h r hr).1
theorem bG.strs {w:World} {base:Nat} {v:Value} {L:List ByteArray} (h:bG w base v L):∃ A c,v= .slice A L.length c∧bB w w.heap.size A L:=by
 rcases Joins.ownsRow_forms h.o with ⟨rfl,h0⟩ | ⟨g,cap,rfl⟩
 · have:L= []:=List.eq_nil_of_length_eq_zero h0;subst this;exact ⟨none,0,rfl,bB.nil⟩
 · refine ⟨_,cap,rfl,fun k hk=>⟨_,rfl,(h.o.lt g rfl).2,?_⟩⟩;exact World.ownsRow.cells h (g:=g) rfl k _ (by rw [List.getElem?_map,List.getElem?_eq_getElem hk];rfl)
theorem uH (w:World) (x:ByteArray) (t:TypeId):bB (w.alloc (.cells #[.string x] t)) (w.heap.size+1) (some ⟨w.heap.size,0,none⟩) [x]:=fun k hk=>by
 have hk:k=0:=by simp at hk;omega
 subst hk;exact ⟨_,rfl,by show w.heap.size < _;omega,by show World.cell? _ ⟨w.heap.size,0,none⟩=_;rw [(Blk.new w #[.string x] t).cell];rfl⟩
theorem bG.lH {w w1 wr w2:World} {v v' :Value} {L L' :List ByteArray} (ho:bG w1 w.heap.size v L) (hb:Below w.heap.size w wr) {o:Obj} (hw:w1=wr.alloc o) (hg:w1.grownBy w2 v.ownBlock) (_h:bG w2 w.heap.size v' L'):Below w.heap.size w w2:=by
 subst hw;have h1:=hb.alloc hb.size o;exact h1.grown hg (by have:=hb.size;simp;omega) (fun r hr=>ho.ge r hr)
theorem nW (D:List ByteArray) (x:ByteArray):(D ++ [x]).filter fT=D.filter fT ++ (if x.size=0 then [] else [x]):=by
 rw [List.filter_append];congr 1;by_cases h:x.size=0
 · simp [fT,h]
 · simp [fT,h]
theorem nX {D:List ByteArray} {x:ByteArray} (h:x.size≠0):(D ++ [x]).filter fT=D.filter fT ++ [x]:=by rw [nW,if_neg h]
theorem nY {D:List ByteArray} {x:ByteArray} (h:x.size=0):(D ++ [x]).filter fT=D.filter fT:=by rw [nW,if_pos h,List.append_nil]
def EA (s:ByteArray) (w:World) (e:Ending) (w' :World):Prop:=∃ (v:Value) (L:List ByteArray) (a b:Bool),e= .returned (.tuple #[v, .bool a, .bool b])∧IsW 47 s L∧bG w' w.heap.size v (L.filter fT)∧Below w.heap.size w w'
theorem xK (D:List ByteArray):(D.filter fT).length≤D.length:=List.length_filter_le _ _
theorem uI (s:ByteArray) (w:World) (hs:s.size≤100000):Calls Tryz.prog 192 #[.string s] w (EA s w):=by
 go_in;go_wp2_with fail;go_loopw [5,6,7] (fun v m i wr=>∃ (D:List ByteArray) (mk ik:Nat),m= .int .i64 (mk:Int)∧i= .int .i64 (ik:Int)∧bG wr w.heap.size v (D.filter fT)∧Below w.heap.size w wr∧Hid ((ik≤s.size∧gL 47 s D mk ik)∨(ik=s.size+1∧IsW 47 s D))∧D.length≤100001∧mk≤s.size+1) (fun _ _ i _=>s.size+2 - (intOf i).toNat);case atStart=>exact ⟨[],0,0,rfl,rfl,bG.nil _ _,Below.refl _ _,Hd (.inl ⟨Nat.zero_le _,gL.start 47 s⟩),by simp,by omega⟩
 case round=>
  obtain ⟨D,mk,ik,rfl,rfl,hown,hb,hst,hD,hm⟩:=hrel;have hfl:=xK D;by_cases hle:ik≤s.size
  · have hc:gL 47 s D mk ik:=by
      rcases hst.o with ⟨_,h⟩ | ⟨h,_⟩
      · exact h
      · omega
    have h1:=hc.le;have h3:=hc.count;have HST:=Hd hc;clear hst hc;by_cases hlt:ik < s.size
    · have n1:((ik:Int) == (s.size:Int))=false:=(by rw [beq_eq_false_iff_ne];omega);by_cases hcc:s[ik]=47
      · have t1:((s[ik].toNat:Int) == 47)=true:=(by rw [hcc];rfl);have HC:=Hd (HST.o.cut hlt hcc);clear hcc;by_cases hem:mk < ik
        · have HF:=Hd (nX (D:=D) (x:=s.extract mk ik) (by rw [ByteArray.size_extract];omega));go_wp2_with (at_builtin;refine eH rfl (.tmp 27) (.tmp 32) rfl w.heap.size _ (D.filter fT) rfl (hown.alloc _) (wr.heap.size+1) (some ⟨wr.heap.size,0,none⟩) 1 1 [s.extract mk ik] rfl rfl (uH wr _ 9) (by simp;omega) (by have:=hb.size;simp;omega) ?_;intro v4 w4 qY hg4 xL);have hb4:=bG.lH (hown.alloc _) hb rfl hg4 qY;clear hg4 xL hb hown;go_wp2_with fail;go_roundw;case rel=>exact ⟨D ++ [s.extract mk ik],ik+1,ik+1,by go_num,by go_num,by rw [HF.o];exact qY,hb4,Hd (.inl ⟨by omega,HC.o⟩),by rw [List.length_append,List.length_singleton];omega,by omega⟩
          case measure=>simp [intOf];omega
        · have HF:=Hd (nY (D:=D) (x:=s.extract mk ik) (by rw [ByteArray.size_extract];omega));go_wp2_with fail;go_roundw;case rel=>exact ⟨D ++ [s.extract mk ik],ik+1,ik+1,by go_num,by go_num,by rw [HF.o];exact hown,hb,Hd (.inl ⟨by omega,HC.o⟩),by rw [List.length_append,List.length_singleton];omega,by omega⟩
          case measure=>simp [intOf];omega
      · have t1:((s[ik].toNat:Int) == 47)=false:=by
          rw [beq_eq_false_iff_ne];intro e;exact hcc (UInt8.toNat_inj.1 (by show s[ik].toNat=47;omega))
        have HC:=Hd (HST.o.next hlt hcc);clear hcc;go_wp2_with fail;go_roundw;case rel=>exact ⟨D,mk,ik+1,rfl,by go_num,hown,hb,Hd (.inl ⟨by omega,HC.o⟩),hD,hm⟩
        case measure=>simp [intOf];omega
    · obtain rfl:ik=s.size:=(by omega);have n1:((s.size:Int) == (s.size:Int))=true:=(by simp);have HC:=Hd HST.o.done;by_cases hem:mk < s.size
      · have HF:=Hd (nX (D:=D) (x:=s.extract mk s.size) (by rw [ByteArray.size_extract];omega));go_wp2_with (at_builtin;refine eH rfl (.tmp 27) (.tmp 32) rfl w.heap.size _ (D.filter fT) rfl (hown.alloc _) (wr.heap.size+1) (some ⟨wr.heap.size,0,none⟩) 1 1 [s.extract mk s.size] rfl rfl (uH wr _ 9) (by simp;omega) (by have:=hb.size;simp;omega) ?_;intro v4 w4 qY hg4 xL);have hb4:=bG.lH (hown.alloc _) hb rfl hg4 qY;clear hg4 xL hb hown;go_wp2_with fail;go_roundw;case rel=>exact ⟨D ++ [s.extract mk s.size],s.size+1,s.size+1,by go_num,by go_num,by rw [HF.o];exact qY,hb4,Hd (.inr ⟨rfl,HC.o⟩),by rw [List.length_append,List.length_singleton];omega,by omega⟩
        case measure=>simp [intOf]
      · have HF:=Hd (nY (D:=D) (x:=s.extract mk s.size) (by rw [ByteArray.size_extract];omega));go_wp2_with fail;go_roundw;case rel=>exact ⟨D ++ [s.extract mk s.size],s.size+1,s.size+1,by go_num,by go_num,by rw [HF.o];exact hown,hb,Hd (.inr ⟨rfl,HC.o⟩),by rw [List.length_append,List.length_singleton];omega,by omega⟩
        case measure=>simp [intOf]
  · have hw:IsW 47 s D:=by
      rcases hst.o with ⟨h,_⟩ | ⟨_,h⟩
      · omega
      · exact h
    have HW:=Hd hw;clear hst hw;go_wp2_with fail;by_cases hz:0 < s.size
    · have d1:decide ((0:Int) < (s.size:Int))=true:=decide_eq_true (by omega);have z0:(0:Int) < (s.size:Int):=(by omega);have z1:(1:Int)≤(s.size:Int):=(by omega);have z2:s.size - 1 < s.size:=(by omega);have c0:(0:Int)≤(s.size:Int) - 1:=(by omega);have c1:(s.size:Int) - 1 < (s.size:Int):=(by omega);have c2:IntKind.i64.wrap ((s.size:Int) - 1)=(s.size:Int) - 1:=IntWalk.i64_in _ (by omega);have c3:((s.size:Int) - 1).toNat=s.size - 1:=(by omega);go_quiet (fail);go_wp2_with fail;refine bodyPost_ret (v:= .tuple #[_, .bool _, .bool _]) (by simp [results,Tryz.results192,go_sem];exact ⟨rfl,rfl,rfl⟩) rfl ?_;exact ⟨_,D,_,_,rfl,HW.o,hown.below (below_drewN (Below.refl _ _) _),below_drewN hb _⟩
    · have d1:decide ((0:Int) < (s.size:Int))=false:=decide_eq_false (by omega);go_quiet (fail);go_wp2_with fail;refine bodyPost_ret (v:= .tuple #[_, .bool _, .bool _]) (by simp [results,Tryz.results192,go_sem];exact ⟨rfl,rfl,rfl⟩) rfl ?_;exact ⟨_,D,_,_,rfl,HW.o,hown.below (below_drewN (Below.refl _ _) _),below_drewN hb _⟩
structure Fo where
 dd:Int
 di:Int
 nm:ByteArray
 fd:Int
 fi:Int
 ex:Bool
 sl:Bool
 pa:ByteArray
abbrev foC (x:Fo):Array Value:=#[.int .i64 x.dd, .int .i64 x.di, .string x.nm, .int .i64 x.fd, .int .i64 x.fi, .bool x.ex, .bool x.sl, .string x.pa]
def zFo:Fo:=⟨0,0,⟨#[]⟩,0,0,false,false,⟨#[]⟩⟩
theorem dh (x:Fo):(Tryz.prog.info? 223).map (·.size)=some (foC x).size:=by show _=some 8;kernel_rfl
theorem bH (x:Fo):(foC x).all (·.oneCell')=true:=by simp [Value.oneCell']
theorem dK {fn:Func} {i j:Nat} (h:fn.results=#[.cell i 223, .tmp j]) (tmps:Array Value) (w:World) (g:Nat) (x:Fo) (hp:tmps.getD i undef= .pointer (some ⟨g,0,none⟩)) (hg:Blk w g 223 (foC x)):
  (results fn tmps).run Tryz.prog w= .ok (.tuple #[.agg (foC x),tmps.getD j undef]) w:=by
 have hp' :tmps[i]?.getD undef= .pointer (some ⟨g,0,none⟩):=by simpa using hp
 simp [results,h,hp',asAddr,run_loadVar_row w g 223 223 (foC x) (0,0) _ hg Tryz.underlying223 rfl (dh x)]
def pg:El ByteArray where
 C s:= [.string s]
 e:=9
 sl:=49
 sz:=1
 bs:=16
 len _:=rfl
 one x u hu:=by simp at hu;rw [hu];rfl
 pos:=by omega
 small:=by omega
 hu:=Tryz.underlying49
 info:=by
  obtain ⟨i0,h1,h2,h3,h4⟩:=info_parts Tryz.Ez;exact ⟨i0,_,h1,h2,h3,h4,rfl⟩
theorem mM {w:World} {base:Nat} {v:Value} {L:List ByteArray} (h:bG w base v L):ax pg w base v L:=by
 have e:∀ M:List ByteArray,M.flatMap pg.C=M.map Value.string:=fun M=>by
  induction M with
  | nil=>rfl
  | cons a r ih=>rw [List.flatMap_cons,List.map_cons,ih];rfl
 unfold ax;unfold bG at h;rw [e];exact h
theorem mO {w:World} {a:Addr} {s:ByteArray} (h:∀ j,j < 1→w.cell? (a.add j)=(pg.C s)[j]?):w.cell? a=some (.string s):=h 0 (by omega)
structure PiF (wr:World) (gd go:Nat) (A:Option Addr) (c:Nat) (L:List ByteArray):Prop where
 at_:AtE pg wr wr.heap.size A L
 far:∀ ad,A=some ad→ad.block≠gd∧ad.block≠go
 cap:L.length≤c
 siz:∀ x∈L,x.size≤128
theorem PiF.below {wr w' :World} {gd go c:Nat} {A:Option Addr} {L:List ByteArray} (h:PiF wr gd go A c L) (hb:Below wr.heap.size wr w'):PiF w' gd go A c L:=⟨h.at_.below hb,h.far,h.cap,h.siz⟩
theorem PiF.row {wr:World} {gd go c k:Nat} {A:Option Addr} {L:List ByteArray} (h:PiF wr gd go A c L) (hk:k=gd∨k=go) (cs:Array Value):PiF (wr.setRow k cs) gd go A c L:=by
 refine ⟨fun q hq=>?_,h.far,h.cap,h.siz⟩;obtain ⟨ad,e,hl,hc⟩:=h.at_ q hq;refine ⟨ad,e,by rw [setRow_size];exact hl,fun j hj=>?_⟩;rw [← hc j hj];refine World.cell?_of_block (setRow_other wr k _ cs ?_);rw [av,av];have:=h.far ad e;rcases hk with rfl | rfl
 · exact this.1
 · exact this.2
theorem PiF.nil (wr:World) (gd go c:Nat) (A:Option Addr) (h:∀ ad,A=some ad→ad.block≠gd∧ad.block≠go):PiF wr gd go A c []:=⟨AtE.nil,h,Nat.zero_le _,fun x hx=>by cases hx⟩
theorem PiF.tail {wr:World} {gd go c:Nat} {a:Addr} {x:ByteArray} {L:List ByteArray} (h:PiF wr gd go (some a) c (x :: L)):PiF wr gd go (some (a.add 1)) (c - 1) L:=by
 refine ⟨fun q hq=>?_,fun ad e=>?_,by have:=h.cap;rw [List.length_cons] at this;omega,fun y hy=>h.siz y (List.mem_cons_of_mem _ hy)⟩
 · obtain ⟨ad,e,hl,hc⟩:=h.at_ (q+1) (by simpa using hq);injection e with e;subst e;refine ⟨a.add 1,rfl,by rw [av];exact hl,fun j hj=>?_⟩;have:=hc j hj;rw [Addr.add_add] at this ⊢;rw [Addr.add_add];have e2:1+(q * pg.sz+j)=(q+1) * pg.sz+j:=(by show 1+(q * 1+j)=(q+1) * 1+j;omega);rw [e2];exact this
 · injection e with e;subst e;rw [av];exact h.far a rfl
theorem PiF.own {wr:World} {base gd go c n:Nat} {A:Option Addr} {L:List ByteArray} (h:ax pg wr base (.slice A n c) L) (hb:∀ q,(Value.slice A n c).ownBlock=some q→q≠gd∧q≠go) (hs:∀ x∈L,x.size≤128):PiF wr gd go A c L∧n=L.length:=by
 rcases Joins.ownsRow_forms h with ⟨e,e0⟩ | ⟨g,cap,e⟩
 · injection e with e1 e2 e3;have:L= []:=List.eq_nil_of_length_eq_zero e0;subst this;subst e1;exact ⟨PiF.nil _ _ _ _ _ (fun _ e=>by cases e),e2⟩
 · injection e with e1 e2 e3;subst e1;refine ⟨⟨aQ h,fun ad e=>?_,?_,hs⟩,e2⟩
   · injection e with e;subst e;exact hb g rfl
   · rcases h.2 with ⟨e,_⟩ | ⟨g1,c1,JZ,e,_,_,h2,_⟩
     · cases e
     · injection e with _ _ e;subst e;exact h2
structure FdF (w wr:World) (A:Option Addr) (n c:Nat) (ds:List Dm) (Am:Option Addr) (nm cm:Nat) (ms:List Mt) (d i:Int):Prop where
 f:SrF w wr A n c ds Am nm cm ms d i
 R:Blk wr (w.heap.size+1+1) 223 (foC zFo)
section
variable {w wr w' :World} {A Am:Option Addr} {n c nm cm gd go:Nat} {ds:List Dm} {ms:List Mt} {d i:Int}
theorem FdF.grow (h:FdF w wr A n c ds Am nm cm ms d i) (hb:Below wr.heap.size wr w'):FdF w w' A n c ds Am nm cm ms d i:=⟨h.f.grow hb,h.R.below hb⟩
theorem FdF.alloc (h:FdF w wr A n c ds Am nm cm ms d i) (o:Obj):FdF w (wr.alloc o) A n c ds Am nm cm ms d i:=h.grow ((Below.refl _ _).alloc (Nat.le_refl _) _)
theorem FdF.row (h:FdF w wr A n c ds Am nm cm ms d i) {k:Nat} (hk:w.heap.size+1+1 < k) (cs:Array Value):FdF w (wr.setRow k cs) A n c ds Am nm cm ms d i:=by
 have hgx:=aA wr k cs;have hb:Below (w.heap.size+1+1+1) wr (wr.setRow k cs):=(Below.refl _ wr).grown hgx (by have:=h.R.lt;omega) (fun q e=>by injection e with e;omega);exact ⟨⟨ai h.f.low (by omega) cs,h.f.src.keep hb (by omega),h.f.mts.keep hb (by omega),h.f.V.keep hb (by omega),h.f.U.keep hb (by omega)⟩,h.R.keep hb (by omega)⟩
def FoP (w:World) (e:Ending) (w' :World):Prop:=∃ (x:Fo) (k:Int),e= .returned (.tuple #[.agg (foC x), .int .i64 k])∧x.nm.size≤12∧x.pa.size≤640∧Below w.heap.size w w'
theorem FdF.err (h:FdF w wr A n c ds Am nm cm ms d i) (k:Int):FoP w (.returned (.tuple #[.agg (foC zFo), .int .i64 k])) (wr.setRow (w.heap.size+1+1) (foC zFo)):=⟨zFo,k,rfl,Nat.zero_le _,Nat.zero_le _,ai h.f.low (by omega) _⟩
structure FiF (w wr:World) (A:Option Addr) (n c:Nat) (ds:List Dm) (Am:Option Addr) (nm cm:Nat) (ms:List Mt) (d i:Int) (gd go:Nat):Prop where
 f:FdF w wr A n c ds Am nm cm ms d i
 D:∃ a b:Int,Blk wr gd 44 #[.int .i64 a, .int .i64 b]
 O:∃ x:Fo,Blk wr go 223 (foC x)∧x.nm.size≤12∧x.pa=⟨#[]⟩
 h1:w.heap.size+1+1 < gd
 h2:gd < go
theorem FiF.grow (h:FiF w wr A n c ds Am nm cm ms d i gd go) (hb:Below wr.heap.size wr w'):FiF w w' A n c ds Am nm cm ms d i gd go:=by
 obtain ⟨a,b,hD⟩:=h.D;obtain ⟨x,hO,hx⟩:=h.O;exact ⟨h.f.grow hb,⟨a,b,hD.below hb⟩,⟨x,hO.below hb,hx⟩,h.h1,h.h2⟩
theorem FiF.alloc (h:FiF w wr A n c ds Am nm cm ms d i gd go) (o:Obj):FiF w (wr.alloc o) A n c ds Am nm cm ms d i gd go:=h.grow ((Below.refl _ _).alloc (Nat.le_refl _) _)
theorem FiF.dir (h:FiF w wr A n c ds Am nm cm ms d i gd go) (a b:Int):FiF w (wr.setRow gd #[.int .i64 a, .int .i64 b]) A n c ds Am nm cm ms d i gd go:=by
 obtain ⟨_,_,hD⟩:=h.D;obtain ⟨x,hO,hx⟩:=h.O;have h1:=h.h1;have h2:=h.h2;exact ⟨h.f.row h1 _,⟨a,b,hD.row _⟩,⟨x,hO.ah _ (by omega),hx⟩,h1,h2⟩
theorem FiF.o (h:FiF w wr A n c ds Am nm cm ms d i gd go) (x:Fo) (hx:x.nm.size≤12∧x.pa=⟨#[]⟩):FiF w (wr.setRow go (foC x)) A n c ds Am nm cm ms d i gd go:=by
 obtain ⟨a,b,hD⟩:=h.D;obtain ⟨_,hO,_⟩:=h.O;have h1:=h.h1;have h2:=h.h2;exact ⟨h.f.row (by omega) _,⟨a,b,hD.ah _ (by omega)⟩,⟨x,hO.row _,hx⟩,h1,h2⟩
end
theorem FdF.only {w wr w' :World} {A Am:Option Addr} {n c nm cm:Nat} {ds:List Dm} {ms:List Mt} {d i:Int} (h:FdF w wr A n c ds Am nm cm ms d i) {k:Nat} (hk:w.heap.size+1+1 < k) (hg:wr.grownBy w' (some k)):FdF w w' A n c ds Am nm cm ms d i:=by
 have hb:Below (w.heap.size+1+1+1) wr w' :=(Below.refl _ wr).grown hg (by have:=h.R.lt;omega) (fun q e=>by injection e with e;omega);exact ⟨⟨h.f.low.trans (hb.mono (by omega)),h.f.src.keep hb (by omega),h.f.mts.keep hb (by omega),h.f.V.keep hb (by omega),h.f.U.keep hb (by omega)⟩,h.R.keep hb (by omega)⟩
section
variable {w wr w' :World} {A Am:Option Addr} {n c nm cm gd go:Nat} {ds:List Dm} {ms:List Mt} {d i:Int}
theorem FiF.LG (h:FiF w wr A n c ds Am nm cm ms d i gd go) (hg:wr.grownBy w' (some gd)) {a b:Int} (hD:Blk w' gd 44 #[.int .i64 a, .int .i64 b]):FiF w w' A n c ds Am nm cm ms d i gd go:=by
 obtain ⟨x,hO,hx⟩:=h.O;have h1:=h.h1;have h2:=h.h2;exact ⟨h.f.only h1 hg,⟨a,b,hD⟩,⟨x,hO.grown hg (fun e=>by injection e with e;omega),hx⟩,h1,h2⟩
theorem PiF.only {A:Option Addr} {c k:Nat} {L:List ByteArray} (h:PiF wr gd go A c L) (hk:k=gd∨k=go) (hg:wr.grownBy w' (some k)):PiF w' gd go A c L:=by
 refine ⟨fun q hq=>?_,h.far,h.cap,h.siz⟩;obtain ⟨ad,e,hl,hc⟩:=h.at_ q hq;refine ⟨ad,e,Nat.lt_of_lt_of_le hl hg.size,fun j hj=>?_⟩;rw [← hc j hj];refine World.cell?_of_block (hg.block _ (by rw [av,av];exact hl) ?_);rw [av,av];have:=h.far ad e;intro e2;injection e2 with e2;rcases hk with rfl | rfl
 · exact this.1 e2
 · exact this.2 e2
end
def xM:Value→Nat | .slice _ n _=>n | _=>0
theorem xZ (a b a3 b3:Int) (x:ByteArray):Tryz.prog.built 223 [(0, .agg #[.int .i64 a, .int .i64 b]),(1, .string x),(2, .agg #[.int .i64 a3, .int .i64 b3]),(3, .bool true)]=some (foC ⟨a,b,x,a3,b3,true,false,⟨#[]⟩⟩):=by
 kernel_rfl
def nA:List Pr→ByteArray→Option Pr
 | [],_=>none
 | p :: r,s=>if (p.nm.toList == s.toList)=true then some p else nA r s
theorem yT {p:Pr} {r:List Pr} {s:ByteArray} (h:(p.nm.toList == s.toList)=true):nA (p :: r) s=some p:=if_pos h
theorem Cw {p:Pr} {r:List Pr} {s:ByteArray} (h:(p.nm.toList == s.toList)=false):nA (p :: r) s=nA r s:=if_neg (by simp [h])
abbrev nG (p:Pr):Array Value:=#[.string p.nm, .int .i64 p.kd, .int .i64 p.nu, .string p.tx]
def Cx:Pr:=⟨⟨#[]⟩,0,0,⟨#[]⟩⟩
def GtR (o:Option Pr) (w:World) (e:Ending) (w' :World):Prop:=e= .returned (.tuple #[.agg (nG (o.getD Cx)), .bool o.isSome])∧Below w.heap.size w w'
theorem wF (p:Pr):(Tryz.prog.info? 79).map (·.size)=some (nG p).size:=by show _=some 4;kernel_rfl
theorem wG (p:Pr):(nG p).all (·.oneCell')=true:=by simp [Value.oneCell']
theorem qO {fn:Func} {i j:Nat} (h:fn.results=#[.cell i 79, .tmp j]) (tmps:Array Value) (w:World) (g:Nat) (p:Pr) (hp:tmps.getD i undef= .pointer (some ⟨g,0,none⟩)) (hg:Blk w g 79 (nG p)):
  (results fn tmps).run Tryz.prog w= .ok (.tuple #[.agg (nG p),tmps.getD j undef]) w:=by
 have hp' :tmps[i]?.getD undef= .pointer (some ⟨g,0,none⟩):=by simpa using hp
 simp [results,h,hp',asAddr,run_loadVar_row w g 79 79 (nG p) (0,0) _ hg Tryz.underlying79 rfl (wF p)]
theorem zP (r:Rc) (A:Option Addr) (n c:Nat) (ps:List Pr) (hn:n=ps.length) (hl:n≤1000) (nm:ByteArray) (w:World) (h:AtE EP w w.heap.size A ps):
  Calls Tryz.prog 23 #[.agg (rcC r (.slice A n c)), .string nm] w (GtR (nA ps nm) w):=by
 have HN:=Hd hn;have HL:=Hd hl;have hb0:=((Below.refl w.heap.size w).alloc (Nat.le_refl _) (.cells (rcC r (.slice A n c)) 77)).alloc (by simp) (.cells (nG Cx) 79);have h2:=Blk.new (w.alloc (.cells (rcC r (.slice A n c)) 77)) (nG Cx) 79;simp only [World.size_alloc] at h2;have B0:=Hd hb0;have V0:=Hd ((Blk.new w (rcC r (.slice A n c)) 77).alloc (.cells (nG Cx) 79));have R0:=Hd h2;have D0:=Hd (h.keep hb0 (Nat.le_refl _));clear h hn hl hb0 h2;go_in;go_upto_region 1 with fail;generalize hw0:(w.alloc (.cells (rcC r (.slice A n c)) 77)).alloc (.cells (nG Cx) 79)=w0 at *;rw [show (w.alloc (.cells (rcC r (.slice A n c)) 77)).alloc (.cells #[.string ⟨#[]⟩, .int .i64 0, .int .i64 0, .string ⟨#[]⟩] 79)=w0 from hw0];clear hw0;go_wp2_with fail;go_loopw [6] (fun ix wr=>∃ k:Nat,k≤ps.length∧ix= .int .i64 k∧wr=w0∧Hid (nA ps nm=nA (ps.drop k) nm)) (fun ix _=>ps.length - (intOf ix).toNat);case atStart=>exact ⟨0,Nat.zero_le _,rfl,rfl,Hd rfl⟩
 case round=>
  obtain ⟨k,hk,rfl,rfl,HE⟩:=hrel;have WK:=Hd (bz hk (by have:=HL.o;have:=HN.o;omega));have x3:wr.cell? ⟨w.heap.size,3,none⟩=some (.slice A n c):=V0.o.cell 3;have hn:=HN.o;by_cases hlt:k < ps.length;case neg=>
   have k1:¬ (k:Int) < (n:Int):=(by rw [hn];omega);have HZ:=Hd (show nA ps nm=none by rw [HE.o,List.drop_eq_nil_of_le (by omega)];rfl);clear hn;go_wp2_with ((with_reducible refine ae ?_ 79 (.tmp 4) (.tmp 27) ?_ R0.o (nG Cx) ?_ ?_ ?_ ?_ ?_ ?_);(iterate 4 rfl);(exact wF _);rfl;(exact wG _));refine bodyPost_ret (qO (fn:=Tryz.f23) rfl _ _ (w.heap.size+1) Cx rfl (Blk.row R0.o _)) rfl ?_;rw [HZ.o];exact ⟨rfl,ai B0.o (by omega) _⟩
  case pos=>
   have k1:(k:Int) < (n:Int):=(by rw [hn];omega);have k2:(0:Int)≤(k:Int):=(by omega);obtain ⟨ad,ea,_,hcx⟩:=D0.o k hlt;obtain ⟨s0,s1,s2,s3⟩:=xE (a:=ad.add (k * 4)) hcx;rw [ea] at x3;have HD:=Hd (show ps.drop k=ps[k] :: ps.drop (k+1) from List.drop_eq_getElem_cons hlt);clear hcx ea hn;generalize ps[k]=p at *;cases hq:(p.nm.toList == nm.toList);case true=>
    have HZ:=Hd (show nA ps nm=some p by rw [HE.o,HD.o,yT hq]);go_wp2_with ((with_reducible refine ae ?_ 79 (.tmp 4) (.tmp 26) ?_ R0.o (nG p) ?_ ?_ ?_ ?_ ?_ ?_);(iterate 4 rfl);(exact wF _);rfl;(exact wG _));refine bodyPost_ret (qO (fn:=Tryz.f23) rfl _ _ (w.heap.size+1) p rfl (Blk.row R0.o _)) rfl ?_;rw [HZ.o];exact ⟨rfl,ai B0.o (by omega) _⟩
   case false=>
    have HZ:=Hd (show nA ps nm=nA (ps.drop (k+1)) nm by rw [HE.o,HD.o,Cw hq]);obtain ⟨wk1,wk2⟩:=WK.o;go_wp2_with fail;clear wk1 wk2;go_roundw;case rel=>exact ⟨k+1,hlt,rfl,by first | rfl | trivial,HZ⟩
    case measure=>exact aN hlt _ rfl
end Go.Proofs.YtollifnnpihfdaaGreatDoor
