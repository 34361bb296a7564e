import Derived.Lib.TrailingZeros
import Derived.Test.YtollifnnpihfdaaGreatDoorG08
set_option maxRecDepth 100000
set_option maxHeartbeats 64000000
set_option linter.all false
namespace Go.Proofs.YtollifnnpihfdaaGreatDoor
open Go.RowKit
def NM (w:World) (base g:Nat) (b:Int) (e:Ending) (w' :World):Prop:=∃ k:Nat,e= .returned (.int .u64 (k:Int))∧k < 18446744073709551616∧aB w' base g b∧w.grownBy w' (some g)
theorem vV (e:Int):∃ k:Nat,k < 18446744073709551616∧IntKind.u64.wrap e=(k:Int):=by
 rw [IntKind.wrap_u64];have h0:0≤e % 18446744073709551616:=Int.emod_nonneg _ (by omega);have h1:e % 18446744073709551616 < 18446744073709551616:=Int.emod_lt_of_pos _ (by omega);obtain ⟨k,hk⟩:=Int.eq_ofNat_of_zero_le h0;exact ⟨k,by omega,hk⟩
theorem JB {m:Nat} (hm:m < 18446744073709551616) (e:Int):∃ k:Nat,k < 18446744073709551616∧bits .or .u64 (m:Int) (IntKind.u64.wrap e)=(k:Int):=by
 obtain ⟨q,hq,eq⟩:=vV e;rw [eq,u64_or_nat m q (by omega) (by omega)];exact ⟨m ||| q,Nat.or_lt_two_pow (n:=64) hm hq,rfl⟩
theorem CV (w:World) (base g:Nat) (b:Int) (h:aB w base g b) (hb:b≤100000000000000):
   Calls Tryz.prog 74 #[.pointer (some ⟨g,0,none⟩)] w (NM w base g (b+40)):=by
 have H:=Hd h;have HB:=Hd hb;clear h hb;go_in;go_wp2_with fail;refine (bG _ base g b 6 H.o (by have:=HB.o;omega) (by omega) (by omega)).mono ?_;rintro e w1 ⟨x,rfl,hx0,hx1,hs,hg⟩;have HS:=Hd hs;have HG:=Hd hg;clear hs hg;by_cases h0:x=0
 · have t0:(x == 0)=true:=(by simpa using h0);clear h0;go_wp2_with fail;go_ret;exact ⟨4294967295,rfl,by omega,HS.o.more (by omega),HG.o⟩
 · have t0:(x == 0)=false:=(by simpa using h0);by_cases h1:x=1
   · have t1:(x == 1)=true:=(by simpa using h1);clear h0 h1;go_wp2_with fail;refine (bG _ base g (b+1) 32 HS.o (by have:=HB.o;omega) (by omega) (by omega)).mono ?_;rintro e w2 ⟨y,rfl,hy0,hy1,hs,hg⟩;have HS2:=Hd hs;have HG2:=Hd (HG.o.trans hg);clear hs hg;go_wp2_with fail;go_ret;obtain ⟨k,hk,he⟩:=vV (2 ^ y.toNat);exact ⟨k,congrArg (fun z=>Ending.returned (.int .u64 z)) he,hk,HS2.o.more (by omega),HG2.o⟩
   · have t1:(x == 1)=false:=(by simpa using h1);clear h0 h1;go_wp2_with fail;go_loopw [3,4] (fun v i wr=>∃ (m k:Nat),v= .int .u64 (m:Int)∧i= .int .i64 (k:Int)∧k≤32∧m < 18446744073709551616∧w.grownBy wr (some g)∧Hid (aB wr base g (b+1+k))) (fun _ i _=>32 - (intOf i).toNat);case atStart=>exact ⟨0,0,rfl,rfl,by omega,by omega,HG.o,HS.o.more (by omega)⟩
     case round=>
      obtain ⟨m,k,rfl,rfl,hk,hm,hgr,hsr⟩:=hrel;by_cases hlt:k < 32
      · have k0:(0:Int)≤(k:Int):=(by omega);have k1:(k:Int) < 32:=(by omega);go_wp2_with fail;refine (bG _ base g (b+1+k) 2 hsr.o (by have:=HB.o;omega) (by omega) (by omega)).mono ?_;rintro e w2 ⟨y,rfl,hy0,hy1,hs,hg⟩;have HS2:=Hd hs;have HG2:=Hd (hgr.trans hg);clear hs hg;go_wp2_with fail;go_roundw;case rel=>
         obtain ⟨q,hq,he⟩:=JB hm _;exact ⟨q,k+1,congrArg (fun z=>Value.int .u64 z) he,by go_num,by omega,hq,HG2.o,HS2.o.more (by omega)⟩
        case measure=>simp [intOf];omega
      · obtain rfl:k=32:=(by omega);go_wp2_with fail;go_ret;exact ⟨m,rfl,hm,hsr.o.more (by omega),hgr⟩
theorem zG (x:Nat) (l:List Nat):∃ c r,grp (x :: l)=(x,c) :: r:=by
 unfold grp;split
 · exact ⟨x, [],rfl⟩
 · split
   · exact ⟨_,_,rfl⟩
   · exact ⟨_,_,rfl⟩
theorem zH (a:Nat) (l:List Nat) (h:l.head? ≠some (a+1)):grp (a :: l)=(a,a) :: grp l:=by
 cases l with
 | nil=>rfl
 | cons x l=>
  obtain ⟨c,r,e⟩:=zG x l;show (match grp (x :: l) with | []=> [(a,a)] | (b,c) :: r=>if b=a+1 then (a,c) :: r else (a,a) :: (b,c) :: r)=_;rw [e];simp only;rw [if_neg (fun e=>h (by simp [e]))]
theorem zI (L:List Nat):∀ (d i k:Nat),k=i+d→(hi:i < L.length)→(hk:k < L.length)→(∀ t,i≤t→(ht:t≤k)→L[t]'(by omega)=L[i]+(t - i))→(L.drop (k+1)).head? ≠some (L[k]+1)→
  grp (L.drop i)=(L[i],L[k]) :: grp (L.drop (k+1))
 | 0,i,k,hd,hi,hk,_,hb=>by
  obtain rfl:k=i:=by omega
  rw [List.drop_eq_getElem_cons hi];exact zH _ _ hb
 | d+1,i,k,hd,hi,hk,hall,hb=>by
  have h1:L[i+1]'(by omega)=L[i]+1:=by have:=hall (i+1) (by omega) (by omega);omega
  have ih:=zI L d (i+1) k (by omega) (by omega) hk (fun t h2 h3=>by have:=hall t (by omega) h3;omega) hb;rw [List.drop_eq_getElem_cons hi];exact Di _ _ _ _ (by rw [ih,h1])
def J7 (L:List Nat) (i k:Nat):Prop:=∀ t,i≤t→t≤k→L.getD t 0=L.getD i 0+(t - i)
theorem getD_at (L:List Nat) (t:Nat) (h:t < L.length):L.getD t 0=L[t]:=by
 rw [List.getD_eq_getElem?_getD,List.getElem?_eq_getElem h];rfl
theorem J7.grp {L:List Nat} {i k:Nat} (h:J7 L i k) (hik:i≤k) (hk:k < L.length) (hb:L.length≤k+1∨L.getD (k+1) 0≠L.getD k 0+1):grp (L.drop i)=(L.getD i 0,L.getD k 0) :: grp (L.drop (k+1)):=by
 have hi:i < L.length:=by omega
 rw [getD_at L i hi,getD_at L k hk];refine zI L (k - i) i k (by omega) hi hk (fun t h1 h2=>?_) ?_
 · have:=h t h1 h2
   rwa [getD_at L t (by omega),getD_at L i hi] at this
 · rcases hb with hb | hb
   · rw [List.drop_eq_nil_of_le hb];simp
   · by_cases hl:k+1 < L.length
     · rw [List.drop_eq_getElem_cons hl];rw [getD_at L (k+1) hl,getD_at L k hk] at hb;rw [List.head?_cons];exact fun e=>hb (by injection e)
     · rw [List.drop_eq_nil_of_le (by omega)];simp
attribute [local irreducible] JP
end Go.Proofs.YtollifnnpihfdaaGreatDoor
namespace Go.Proofs.YtollifnnpihfdaaGreatDoor
open Go.ChangeShapes Go.WideShapes Go.RowKit Go.Joins Go.Deep
theorem chunks {α:Type} {c:Nat} :∀ {L:List (List α)} {cs:List α},cs.length=L.length * c→(∀ i (hi:i < L.length),(cs.drop (i * c)).take c=L[i])→cs=L.flatten
 | [],cs,h,_=>by simp at h;simp [h]
 | x :: L,cs,h,hi=>by
  have h0:=hi 0 (by simp);simp at h0;have hr:cs.drop c=L.flatten:=chunks (c:=c) (by rw [List.length_drop,h,List.length_cons,Nat.add_mul];omega) (fun i hlt=>by
   have:=hi (i+1) (by simp;omega);rw [List.drop_drop,show c+i * c=(i+1) * c by rw [Nat.add_mul];omega];simpa using this)
  rw [List.flatten_cons, ← hr, ← h0,List.take_append_drop]
section
variable {H:Type} {enc:TypeId×Value→H} {P:Program} {w:World} {base:Nat} {sp:Nat→Bool} {held:Bool}
theorem sN {cs:List Value} {j:Nat} {v:Value} (h:(cs.drop j).take 1= [v]):cs[j]? =some v:=by
 have:=congrArg (·[0]?) h;simpa [List.getElem?_take,List.getElem?_drop] using this
theorem aK {fuel:Nat} {t:TypeId} {f0 f1 f2 f3 f4:Field} {k:IntKind} {cs:List Value} {l:List UInt8} {a b c d:Int} {p:List MemPlace} (hs:P.underlying t=some (.struct #[f0,f1,f2,f3,f4])) (hone:oneCellFields P #[f0,f1,f2,f3,f4]=true) (hC:P.cellsOf t=5)
  (h0:P.underlying f0.type=some .string) (h1:P.underlying f1.type=some (.int k)) (h2:P.underlying f2.type=some (.int k)) (h3:P.underlying f3.type=some (.int k)) (h4:P.underlying f4.type=some (.int k))
  (h:DataW.trod enc P w base sp held fuel t cs=some (.agg [.lit (.string l), .lit (.int k a), .lit (.int k b), .lit (.int k c), .lit (.int k d)],p)):cs= [.string ⟨l.toArray⟩, .int k a, .int k b, .int k c, .int k d]:=by
 obtain ⟨xs,n,_,hx,hl,hlen,hg⟩:=DataW.trod_struct hs h;obtain ⟨o0,k0⟩:=hone_of hone 0 f0 rfl;obtain ⟨o1,k1⟩:=hone_of hone 1 f1 rfl;obtain ⟨o2,k2⟩:=hone_of hone 2 f2 rfl;obtain ⟨o3,k3⟩:=hone_of hone 3 f3 rfl;obtain ⟨o4,k4⟩:=hone_of hone 4 f4 rfl
 match xs,hlen with
 | [y0,y1,y2,y3,y4],_=>
  simp only [Prod.mk.injEq] at hx;have hx1:=hx.1;simp at hx1;obtain ⟨e0,e1,e2,e3,e4⟩:=hx1;have g0:=hg 0 f0 rfl;have g1:=hg 1 f1 rfl;have g2:=hg 2 f2 rfl;have g3:=hg 3 f3 rfl;have g4:=hg 4 f4 rfl;rw [o0,k0] at g0;rw [o1,k1] at g1;rw [o2,k2] at g2;rw [o3,k3] at g3;rw [o4,k4] at g4;simp only [List.getElem?_cons_zero,List.getElem?_cons_succ] at g0 g1 g2 g3 g4;obtain ⟨s,c0,z0,_⟩:=DataW.trod_string h0 g0;obtain ⟨n1,c1,z1,_⟩:=DataW.trod_int h1 g1;obtain ⟨n2,c2,z2,_⟩:=DataW.trod_int h2 g2;obtain ⟨n3,c3,z3,_⟩:=DataW.trod_int h3 g3;obtain ⟨n4,c4,z4,_⟩:=DataW.trod_int h4 g4;rw [z0] at e0;rw [z1] at e1;rw [z2] at e2;rw [z3] at e3;rw [z4] at e4;simp at e0 e1 e2 e3 e4;have q0:=sN c0;have q1:=sN c1;have q2:=sN c2;have q3:=sN c3;have q4:=sN c4;subst e1 e2 e3 e4;have es:s=⟨l.toArray⟩:=by rw [e0]
  subst es
  match cs,hl.trans hC with
  | [x0,x1,x2,x3,x4],_=>
   simp at q0 q1 q2 q3 q4;rw [q0,q1,q2,q3,q4]
theorem zK {fuel n c:Nat} {t e:TypeId} {cs:List Value} {ds:List (DataW H)} {p:List MemPlace} {L:List (List Value)} (ht:P.underlying t=some (.array n e)) (hce:P.cellsOf e=c) (hct:P.cellsOf t=n * c) (hL:L.length=n)
  (h:DataW.trod enc P w base sp held fuel t cs=some (.agg ds,p))
  (hel:∀ i (hi:i < L.length) m cs' d q,ds[i]? =some d→DataW.trod enc P w base sp held m e cs' =some (d,q)→cs' =L[i]):cs=L.flatten:=by
 obtain ⟨xs,m,_,hx,hl,hlen,hg⟩:=DataW.trod_array ht h;simp only [Prod.mk.injEq] at hx;have hx1:=hx.1;simp at hx1;refine chunks (c:=c) (by rw [hl,hct,hL]) fun i hi=>?_;have:=hg i (by omega);rw [hce] at this;have hxi:xs[i]? =some (xs[i]'(by omega)):=List.getElem?_eq_getElem (by omega);rw [hxi] at this;exact hel i hi m _ _ _ (by rw [hx1,List.getElem?_map,hxi];rfl) this
theorem sO {P:Program} {W:World} {laid:List (String×DataW Unit)} {name:String} {ds:List (DataW Unit)} {g n c:Nat} {t e:TypeId} {L:List (List Value)} {cs:Array Value} (i:Nat)
   (hpl:(laid.all fun x=>x.2.handleName?.isNone)=true) (h:laidMetH P laid W) (hi:laid[i]? =some (name, .agg ds))
   (hg:P.globalNamed name=some g) (hty:(P.globals[g]?).map (·.type)=some t) (ht:P.underlying t=some (.array n e)) (hce:P.cellsOf e=c) (hct:P.cellsOf t=n * c) (hL:L.length=n) (hcs:cs=L.flatten.toArray)
   (hel:∀ (w:World) i (hi:i < L.length) m cs' d q,ds[i]? =some d→DataW.trod (fun _=>()) P w 0 (fun _=>true) false m e cs' =some (d,q)→cs' =L[i]):yO W g cs:=by
 rw [MakeChecks.laidMetH_plain _ _ _ hpl] at h;obtain ⟨ps,hv,_⟩:=h;obtain ⟨g',t',cs',fuel,p,hg',ht',hvar,hd⟩:=yN hv i name _ hi;obtain rfl:=Option.some.inj (hg.symm.trans hg');obtain rfl:=Option.some.inj (hty.symm.trans ht');have hc:=zK ht hce hct hL hd (hel W);unfold World.var? at hvar;rw [hg] at hvar;simp only [Option.bind_some] at hvar;split at hvar
 · rename_i cs2 tt fr he;injection hvar with hvar;subst hvar;refine ⟨tt,fr,by rw [he,hcs, ← hc]⟩
 · cases hvar
end
def Tst.ev (c:Ctx) (is:List Itm) (t:Tst):Bool:=iC c is t.fd t.op t.nu t.tx t.ot
def bQ (c:Ctx) (n:Int) (is:List Itm) (hit:Bool) (r:Rul):Bool:=(r.ca == 0 || hasB r.ca n) && ((r.wa == 0 || hit) && r.ts.all (Tst.ev c is))
def fI (rs:List Rul) (l:Int) (c:Ctx) (n:Int) (is:List Itm):Option Nat:=rs.findIdx? fun r=>r.li == l && bQ c n is false r
def DI (t:Int):Bool:=t == 1005 || t == 1300 || t == 1306 || t == 1307 || t == 1302 || t == 1309
def kg (rs:List Rul) (c:Ctx) (n:Int) (is:List Itm) (t:Int):Bool:=
 DI t && match fI rs 5 { c with ty:=t } n is with | some i=>(rs[i]?.map (fun r=>r.ac == 1)).getD false | none=>false
theorem sQ {α:Type} {p:α→Bool} {l:List α} (h:∀ k (hk:k < l.length),p (l[k]'hk)=false):l.findIdx? p=none:=by
 rw [List.findIdx?_eq_none_iff];intro x hx;obtain ⟨k,hk,rfl⟩:=List.getElem_of_mem hx;exact h k hk
theorem sS {α:Type} {p:α→Bool} {l:List α} {k:Nat} (hk:k < l.length) (h:∀ j (hj:j < k),p (l[j]'(by omega))=false) (he:p (l[k]'hk)=true):l.findIdx? p=some k:=by
 rw [List.findIdx?_eq_some_iff_getElem];exact ⟨hk,he,fun j hj=>by rw [h j hj];decide⟩
theorem sU {rs:List Rul} {c:Ctx} {n:Int} {is:List Itm} {t:Int} (ht:DI t=true) (h:fI rs 5 { c with ty:=t } n is=none):kg rs c n is t=false:=by
 unfold kg;rw [ht,h];rfl
theorem sV {rs:List Rul} {c:Ctx} {n:Int} {is:List Itm} {t:Int} {k:Nat} (ht:DI t=true) (h:fI rs 5 { c with ty:=t } n is=some k):kg rs c n is t=(rs[k]?.map (fun r=>r.ac == 1)).getD false:=by
 unfold kg;rw [ht,h];rfl
theorem wJ {rs:List Rul} {l:Int} {c:Ctx} {n:Int} {is:List Itm} {k:Nat} (h:fI rs l c n is=some k):k < rs.length:=by
 unfold fI at h;exact (List.findIdx?_eq_some_iff_getElem.1 h).1
abbrev Od (nm:ByteArray) (kd nu:Int) (tx:ByteArray):Value:= .agg #[.string nm, .int .i64 kd, .int .i64 nu, .string tx]
structure Pr where
 nm:ByteArray
 kd:Int
 nu:Int
 tx:ByteArray
structure Rc where
 ty:Int
 ti:Int
 se:Int
 ps:List Pr
abbrev prV (p:Pr):Value:=Od p.nm p.kd p.nu p.tx
abbrev rcC (r:Rc) (v:Value):Array Value:=#[.int .i64 r.ty, .int .i64 r.ti, .int .i64 r.se,v]
abbrev rcV (r:Rc) (v:Value):Value:= .agg (rcC r v)
theorem Tryz.Ka:(Tryz.prog.info? 79).map (fun i=>(i.zero,i.size,i.bytes))=some (some (.agg #[.string ⟨#[]⟩, .int .i64 0, .int .i64 0, .string ⟨#[]⟩]),4,48):=by kernel_rfl
theorem Tryz.Kb:(Tryz.prog.info? 77).map (fun i=>(i.zero,i.size,i.bytes))=some (some (.agg #[.int .i64 0, .int .i64 0, .int .i64 0, .slice none 0 0]),4,48):=by kernel_rfl
def EP:El Pr where
 C p:= [.string p.nm, .int .i64 p.kd, .int .i64 p.nu, .string p.tx]
 e:=79
 sl:=75
 sz:=4
 bs:=48
 len _:=rfl
 one p u hu:=by simp at hu;rcases hu with rfl | rfl | rfl | rfl <;> rfl
 pos:=by omega
 small:=by omega
 hu:=Tryz.underlying75
 info:=by
  obtain ⟨i0,h1,h2,h3,h4⟩:=info_parts Tryz.Ka;exact ⟨i0,_,h1,h2,h3,h4,rfl⟩
structure Rm where
 r:Rc
 A:Option Addr
 c:Nat
abbrev Rm.sl (x:Rm):Value:= .slice x.A x.r.ps.length x.c
def ER:El Rm where
 C x:= [.int .i64 x.r.ty, .int .i64 x.r.ti, .int .i64 x.r.se, .slice x.A x.r.ps.length x.c]
 e:=77
 sl:=65
 sz:=4
 bs:=48
 len _:=rfl
 one x u hu:=by simp at hu;rcases hu with rfl | rfl | rfl | rfl <;> rfl
 pos:=by omega
 small:=by omega
 hu:=Tryz.underlying65
 info:=by
  obtain ⟨i0,h1,h2,h3,h4⟩:=info_parts Tryz.Kb;exact ⟨i0,_,h1,h2,h3,h4,rfl⟩
theorem Kc (r:Rc) (v:Value):(Tryz.prog.info? 77).map (·.size)=some (rcC r v).size:=by show _=some 4;kernel_rfl
abbrev RcB (w:World) (g:Nat) (r:Rc) (v:Value):Prop:=Blk w g 77 (rcC r v)
def kC:Nd:=⟨1,2,493,0,0,1,⟨#[]⟩, []⟩
def KV:Dv:=⟨2, [kC]⟩
theorem qE {fn:Func} {i j:Nat} (h:fn.results=#[.cell i 28, .tmp j]) (tmps:Array Value) (w:World) (g:Nat) (v:Value) (hp:tmps.getD i undef= .pointer (some ⟨g,0,none⟩)) (hg:Blk w g 28 #[v]):
  (results fn tmps).run Tryz.prog w= .ok (.tuple #[.agg #[v],tmps.getD j undef]) w:=by
 have hp' :tmps[i]?.getD undef= .pointer (some ⟨g,0,none⟩):=by simpa using hp
 simp [results,h,hp',asAddr,run_loadVar_row w g 28 28 #[v] (0,0) _ hg Tryz.underlying28 rfl (bS v)]
def Ig (n:Nat) (w:World) (e:Ending) (w' :World):Prop:=
 ∃ (v:Value) (ds:List Dm),e= .returned (.tuple #[.agg #[v], .int .i64 0])∧aC w' w.heap.size v ds∧ds.map Dm.dv=List.replicate n KV∧Below w.heap.size w w'
structure NwS (w wr:World) (j:Nat):Prop where
 low:Below w.heap.size w wr
 res:Blk wr w.heap.size 28 #[.slice none 0 0]
 o:∃ (v:Value) (es:List Dm),Blk wr (w.heap.size+1) 28 #[v]∧aC wr (w.heap.size+1+1) v es∧es.map Dm.dv=List.replicate j KV
theorem Pj (n:Nat) (h1:1≤n) (h3:n≤3) (w:World):Calls Tryz.prog 79 #[.int .i64 (n:Int)] w (Ig n w):=by
 have i1:¬ (n:Int) < 1:=by omega
 have i2:¬ (3:Int) < (n:Int):=by omega
 have hs1:(w.alloc (.cells #[.slice none 0 0] 28)).heap.size=w.heap.size+1:=by simp
 have S0:=Hd (show NwS w ((w.alloc (.cells #[.slice none 0 0] 28)).alloc (.cells #[.slice none 0 0] 28)) 0 from
  ⟨((Below.refl w.heap.size w).alloc (Nat.le_refl _) _).alloc (by rw [hs1];omega) _,(Blk.new w #[.slice none 0 0] 28).alloc _, .slice none 0 0, [],by
   have:=Blk.new (w.alloc (.cells #[.slice none 0 0] 28)) #[.slice none 0 0] 28;rw [hs1] at this;exact this,aC.nil _ _,rfl⟩)
 clear hs1;go_in;go_wp2_with fail;generalize (w.alloc (.cells #[.slice none 0 0] 28)).alloc (.cells #[.slice none 0 0] 28)=w0 at *;clear i1 i2;go_loopw [5] (fun i wr=>∃ j:Nat,j≤n∧i= .int .i64 j∧Hid (NwS w wr j)) (fun i _=>n - (intOf i).toNat);case atStart=>exact ⟨0,Nat.zero_le _,rfl,S0⟩
 case round=>
  clear S0;obtain ⟨j,hj,rfl,HS⟩:=hrel;obtain ⟨v,es,hob,hof,hoe⟩:=HS.o.o;obtain ⟨Ao,co,rfl,_⟩:=hof.own.at;have hel:es.length=j:=by have:=congrArg List.length hoe;simpa using this
  have c0:=hob.cell 0;by_cases hlt:j < n;case pos=>
   have j1:(j:Int) < (n:Int):=(by omega);obtain ⟨wj1,wj2⟩:=bW (q:=j) (n:=3) (by omega) (by omega);have HOB:=Hd hob;have HOF:=Hd hof;have HOE:=Hd hoe;have HEL:=Hd (show es.length≤3 by omega);have RWN:=Hd (aM ENd wr (ndC kC (.slice none 0 0)) 145 ⟨kC,none,0⟩ rfl (Nat.lt_succ_self wr.heap.size));clear hob hof hoe hel;have hsa:(wr.alloc (.cells (ndC kC (.slice none 0 0)) 145)).heap.size=wr.heap.size+1:=(by simp);have HN:=Hd (show ax ENd (wr.alloc (.cells (ndC kC (.slice none 0 0)) 145)) wr.heap.size (.slice (some ⟨wr.heap.size,0,none⟩) 1 1) [(⟨kC,none,0⟩:Nm)] from
    ⟨rfl, .inr ⟨wr.heap.size,1,ndC kC (.slice none 0 0),rfl,Nat.le_refl _,heap_alloc_new wr _,Nat.le_refl _,by unfold maxLen;omega,rfl,rfl⟩⟩)
   have HF2:=Hd ((HOF.o.below ((Below.refl wr.heap.size wr).alloc (Nat.le_refl _) (.cells (ndC kC (.slice none 0 0)) 145))));have RWD:=Hd (aM EDv (wr.alloc (.cells (ndC kC (.slice none 0 0)) 145)) (dvC 2 (.slice (some ⟨wr.heap.size,0,none⟩) 1 1)) 142 ⟨2, [⟨kC,none,0⟩],some ⟨wr.heap.size,0,none⟩,1⟩ rfl (Nat.lt_succ_self _));have HF3:=Hd (HF2.o.below ((Below.refl _ (wr.alloc (.cells (ndC kC (.slice none 0 0)) 145))).alloc (Nat.le_refl _) (.cells (dvC 2 (.slice (some ⟨wr.heap.size,0,none⟩) 1 1)) 142)));go_upto_region 7 with fail;go_wp2_with (at_builtin;refine ah EDv rfl (.tmp 19) (.tmp 23) rfl (w.heap.size+1+1) (.slice Ao es.length co) es rfl HF3.o.own (wr.heap.size+1+1) (some ⟨wr.heap.size+1,0,none⟩) 1 1 [⟨2, [⟨kC,none,0⟩],some ⟨wr.heap.size,0,none⟩,1⟩] rfl rfl (by have:=RWD.o;rw [hsa] at this;exact this) (by have:=HEL.o;simp;omega) (by have:=HOB.o.lt;simp;omega) ?_);intro v9 w9 ho9 hg9 DU;obtain ⟨A9,c9,e9,_⟩:=ho9.at;have e9x:v9= .slice A9 (es.length+1) c9:=(by rw [e9];simp);clear e9;subst e9x;clear c0;have hgw:w.heap.size+1 < wr.heap.size:=HOB.o.lt;have hne:∀ g,g≤w.heap.size+1→(Value.slice Ao es.length co).ownBlock≠some g:=fun g hg e=>by have:=HOF.o.own.ge g e;omega
   have HO9:=Hd (((HOB.o.alloc (.cells (ndC kC (.slice none 0 0)) 145)).alloc (.cells (dvC 2 (.slice (some ⟨wr.heap.size,0,none⟩) 1 1)) 142)).grown hg9 (hne _ (Nat.le_refl _)));have c0:=HO9.o.cell 0;have f0:=HO9.o.free 0;have hfs:=aC.app (d:=⟨2, [⟨kC,none,0⟩],some ⟨wr.heap.size,0,none⟩,1⟩) HF3.o ((HN.o.alloc _).low (by omega)) (by show 1≤1000;omega) (fun x hx=>by
    rw [List.mem_singleton.1 hx];exact ⟨ax.nil _ _,by show (0:Nat)≤1000;omega,by show (0:Nat)≤1000;omega,fun y hy=>by cases hy⟩) (fun d' hd' g e r=>by
    have h1:=(HOF.o.nodes d' hd').1.lt g e;injection r with r;have:wr.heap.size=g:=r;omega) ho9 hg9 (by have:=HEL.o;omega)
   have HN9:=Hd (show NwS w (w9.setCell ⟨w.heap.size+1,0,none⟩ (.slice A9 (es.length+1) c9)) (j+1) from
    ⟨(((HS.o.low.alloc HS.o.low.size _).alloc (by simp;omega) _).grown hg9 (by simp;omega) (fun q e=>by have:=HOF.o.own.ge q e;omega)).setCell (p:=⟨w.heap.size+1,0,none⟩) (by show w.heap.size≤w.heap.size+1;omega) _,
     ((((HS.o.res.alloc _).alloc _).grown hg9 (hne _ (by omega))).af _ (by show w.heap.size≠w.heap.size+1;omega)),
     .slice A9 (es.length+1) c9,_,HO9.o.put 0 _,hfs.far (aL w9 (w.heap.size+1) 0 _) (fun q e=>by injection e with e;subst e;exact hfs.old (by omega)),by
      rw [List.map_append,HOE.o,List.replicate_succ'];rfl⟩)
   clear ho9 hg9 DU hne hfs;go_wp2_with fail;go_roundw;case rel=>exact ⟨j+1,hlt,by go_num,HN9⟩
   case measure=>simp [intOf];omega
  case neg=>
   have j1:¬ (j:Int) < (n:Int):=(by omega);have hjn:j=n:=(by omega);have HOB:=Hd hob;have Km:=Hd HS.o.res;have yH:=Hd HS.o.low;have HFF:=Hd (hof.far (aJ wr w.heap.size #[.slice Ao es.length co]) (fun q e=>by injection e with e;subst e;exact hof.old (by omega)));rw [hjn] at hoe;have HOE:=Hd hoe;clear hob hof hoe HS hel hjn;go_wp2_with (first | ((with_reducible refine aP ?_ 28 (.tmp 4) ?_ HOB.o ?_ _ Tryz.underlying28 ?_ ?_ ?_);(iterate 4 rfl);exact bS _) | ((with_reducible refine ae ?_ 28 (.tmp 2) (.tmp 26) ?_ Km.o #[.slice Ao es.length co] ?_ ?_ ?_ ?_ ?_ ?_);(iterate 4 rfl);(exact bS _);rfl;(simp [Value.oneCell'])));refine bodyPost_ret (qE (fn:=Tryz.f79) rfl _ _ w.heap.size (.slice Ao es.length co) rfl (Blk.row Km.o _)) rfl ?_;exact ⟨_,es,rfl,HFF.o.low (by omega),HOE.o,ak yH.o (Nat.le_refl _) _⟩
theorem yh:dV .i64=#[.string ⟨#[102,111,114,107]⟩, .int .i64 0, .int .i64 0, .int .i64 0, .int .i64 0, .string ⟨#[101,120,101,99,118,101]⟩, .int .i64 0, .int .i64 1, .int .i64 0, .int .i64 4, .string ⟨#[101,120,105,116]⟩, .int .i64 1, .int .i64 0, .int .i64 0, .int .i64 0, .string ⟨#[115,101,116,117,105,100]⟩, .int .i64 1, .int .i64 0, .int .i64 0, .int .i64 0, .string ⟨#[115,101,116,103,105,100]⟩, .int .i64 1, .int .i64 0, .int .i64 0, .int .i64 0, .string ⟨#[108,111,103,105,110]⟩, .int .i64 1, .int .i64 0, .int .i64 0, .int .i64 0, .string ⟨#[111,112,101,110]⟩, .int .i64 2, .int .i64 1, .int .i64 0, .int .i64 0, .string ⟨#[99,108,111,115,101]⟩, .int .i64 1, .int .i64 0, .int .i64 0, .int .i64 0, .string ⟨#[108,105,110,107]⟩, .int .i64 0, .int .i64 2, .int .i64 0, .int .i64 0, .string ⟨#[115,121,109,108,105,110,107]⟩, .int .i64 0, .int .i64 1, .int .i64 1, .int .i64 1, .string ⟨#[117,110,108,105,110,107]⟩, .int .i64 0, .int .i64 1, .int .i64 0, .int .i64 0, .string ⟨#[109,107,100,105,114]⟩, .int .i64 1, .int .i64 1, .int .i64 0, .int .i64 0, .string ⟨#[114,109,100,105,114]⟩, .int .i64 0, .int .i64 1, .int .i64 0, .int .i64 0, .string ⟨#[114,101,110,97,109,101]⟩, .int .i64 0, .int .i64 2, .int .i64 0, .int .i64 0, .string ⟨#[99,104,109,111,100]⟩, .int .i64 1, .int .i64 1, .int .i64 0, .int .i64 0, .string ⟨#[99,104,111,119,110]⟩, .int .i64 2, .int .i64 1, .int .i64 0, .int .i64 0, .string ⟨#[99,104,100,105,114]⟩, .int .i64 0, .int .i64 1, .int .i64 0, .int .i64 0, .string ⟨#[109,111,117,110,116]⟩, .int .i64 1, .int .i64 1, .int .i64 0, .int .i64 0, .string ⟨#[117,109,111,117,110,116]⟩, .int .i64 1, .int .i64 0, .int .i64 0, .int .i64 0, .string ⟨#[99,111,110,110,101,99,116]⟩, .int .i64 1, .int .i64 0, .int .i64 1, .int .i64 1, .string ⟨#[107,105,108,108]⟩, .int .i64 2, .int .i64 0, .int .i64 0, .int .i64 0, .string ⟨#[116,114,117,110,99,97,116,101]⟩, .int .i64 1, .int .i64 1, .int .i64 0, .int .i64 0]:=rfl
attribute [local irreducible] dV jw
theorem FQ (w:World):Calls Tryz.prog 110 #[] w fun e w' =>e= .returned (.slice (some ⟨w.heap.size,0,none⟩) 22 22)∧yO w' w.heap.size (dV .i64)∧Below w.heap.size w w' :=by
 go_in
 go_wp2
 go_ret;exact ⟨rfl,⟨147,(0,0),(heap_alloc_new w _).trans (congrArg (fun c=>some (Obj.cells c 147 (0,0))) yh.symm)⟩,(Below.refl _ _).alloc (Nat.le_refl _) _⟩
end Go.Proofs.YtollifnnpihfdaaGreatDoor
