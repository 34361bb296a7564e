import Derived.LaidSub
import Derived.Stop.Joined
import Derived.Test.YtollifnnpihfdaaGreatDoorB05
import Derived.Test.YtollifnnpihfdaaGreatDoorB06
import Derived.Test.YtollifnnpihfdaaGreatDoorSh
import Derived.Lib.AppendIntMem
import Derived.Lib.SplitLaws
set_option maxRecDepth 100000
set_option maxHeartbeats 64000000
set_option linter.all false
namespace Go.Proofs.YtollifnnpihfdaaGreatDoor
open Go.ChangeShapes Go.WideShapes Go.ChangeAt Go.RowKit
theorem uH {P:Program} {w:World} :∀ {l:List (String×DataW Unit)} {ps:List MemPlace},DataW.LaidVars P w l ps→∀ (i:Nat) (n:String) (d:DataW Unit),l[i]? =some (n,d)→
  ∃ g t cs fuel p,P.globalNamed n=some g∧(P.globals[g]?).map (·.type)=some t∧w.var? P n=some cs∧DataW.trod (fun _=>()) P w 0 (fun _=>true) false fuel t cs.toList=some (d,p)
 | [],_,_,i,n,d,hm=>by simp at hm
 | (n',d') :: r,ps,h,i,n,d,hm=>by
  obtain ⟨g,t,cs,fuel,p,q,h1,h2,h3,h4,h5,_⟩:=h
  match i,hm with
  | 0,hm=>
   simp at hm;obtain ⟨rfl,rfl⟩:=hm;exact ⟨g,t,cs,fuel,p,h1,h2,h3,h4⟩
  | i+1,hm=>exact uH h5 i n d (by simpa using hm)
section
variable {H:Type} {enc:TypeId×Value→H} {P:Program}
theorem jd (hl:laidOutB P=true) {W W' :World} (hb:Below W.heap.size W W'):∀ {ts:List TypeId} {vs:List Value} {ds:List (DataW H)} {ps:List MemPlace},
  (∀ t∈ts,P.readableRec t=true∧t < P.types.size)→DataW.TrodAll enc P W 0 (fun _=>true) true ts vs ds ps→(∀ x∈ps,x.block < W.heap.size)→
  DataW.TrodAll enc P W' 0 (fun b=>decide (b < W.heap.size)) true ts vs ds ps
 | [],vs,ds,ps,_,h,_=>by
  obtain ⟨rfl,rfl,rfl⟩:=trodAll_nil h;exact trodAll_mk0
 | t :: ts,vs,ds,ps,ht,h,hlt=>by
  obtain ⟨v,vs1,d,ds1,p,q,rfl,rfl,rfl,h1,h2⟩:=trodAll_cons h;have hh:=ht t List.mem_cons_self;exact trodAll_cons_mk (Below.trod hl hh.1 hh.2 h1 hb fun x hx=>hlt x (List.mem_append_left _ hx))
   (jd hl hb (fun u hu=>ht u (List.mem_cons_of_mem _ hu)) h2 fun x hx=>hlt x (List.mem_append_right _ hx))
theorem law_mono {f:FuncId} {args:Array Value} {W:World} {Q:Ending→World→Prop} (h:Calls P f args W fun e w' =>e= .returned (.bool true)∧Below W.heap.size W w')
 (k:∀ W',Below W.heap.size W W' →Q (.returned (.bool true)) W'):Calls P f args W Q:=h.mono fun _ w' hh=>hh.1 ▸ k w' hh.2
theorem post_law {f:Func} {s:ChangeSpec} {W W' :World} {args:Array Value} {ds gs:List (DataW H)} {before:List MemPlace} {b:TypeId}
   (hl:laidOutB P=true) (hp:(f.params.toList.all fun t=>P.readableRec t && decide (t < P.types.size))=true) (hr:f.resultTypes=#[b]) (JQ:P.underlying b=some .bool)
   (hW:DataW.Whole enc P f.params.toList s.vars false W args.toList ds gs before) (hv:s.vars= []) (hfn:s.fn H (ds ++ gs)= { results:= [.lit (.bool true)],args:=ds }) (hb:Below W.heap.size W W'):
   s.post enc P f false true false false W args (.bool true) W' :=by
 have hlt:∀ p∈before,p.block < W.heap.size:=fun p hp=>hW.lt p hp;obtain ⟨p,q,hA,hV,rfl,hfz,hnd⟩:=id hW;have hV' :=hV;rw [hv] at hV';obtain ⟨rfl,rfl⟩:=trodVars_none hV';refine ⟨ds, [],_, [],p, [],hW,?_,?_,?_,hb.frame _,fun h=>by cases h⟩
 · rw [hfn,hr];exact trodAll_mk1 (shut_bool JQ _)
 · rw [hfn];exact jd hl hb (fun t ht=>by simpa using List.all_eq_true.1 hp t ht) hA fun x hx=>hlt x (List.mem_append_left _ hx)
 · rw [hfn,hv];rfl
theorem ints_arg {W:World} {base:Nat} {t e:TypeId} {v:Value} {d:DataW H} {p:List MemPlace} (ht:P.underlying t=some (.slice e)) (he:P.underlying e=some (.int .i64)) (hc:P.cellsOf e=1)
   (hv:Value.okWide P W .any base t v) (h:DataW.Trod enc P W 0 (fun _=>true) true t v d p) (hlt:∀ x∈p,x.block < W.heap.size):
   ∃ (A:Option Addr) (n c:Nat),v= .slice A n c∧(n:Int)≤9223372036854775807∧∀ k,k < n→∃ (ad:Addr) (z:Int),A=some ad∧ad.block < W.heap.size∧W.cell? (ad.add k)=some (.int .i64 z)∧ -9223372036854775808≤z∧z≤9223372036854775807:=by
 obtain ⟨a0,len,cap,rfl⟩:=okWide_slice ht hv;obtain ⟨fuel,hf⟩:=h;rcases open_ints ht he hc hf with ⟨hcs,hx⟩ | ⟨a,len',cap',zs,hcs,_,hl,hm,hz,hx,hcell,hwz⟩
 · simp [Value.cells] at hcs;obtain ⟨rfl,rfl,rfl⟩:=hcs;exact ⟨none,0,0,rfl,by omega,fun k hk=>by omega⟩
 · simp [Value.cells] at hcs;obtain ⟨rfl,rfl,rfl⟩:=hcs;simp only [if_true] at hz;unfold maxLen at hm;refine ⟨some a,len,cap,rfl,by omega,fun k hk=>?_⟩;have hkz:k < zs.length:=(by omega);have hw:=bounds_i64 (hwz (zs.getD k 0) (by rw [List.getD_eq_getElem?_getD,List.getElem?_eq_getElem hkz];exact List.getElem_mem hkz));refine ⟨a,zs.getD k 0,rfl,?_,hcell k hkz,hw.1,hw.2⟩;injection hx with _ hp;have hmem:MemPlace.cell a.block (a.off+0)∈p:=by
    rw [hp];unfold MemPlace.row;simp;omega
   exact hlt _ hmem
end
theorem zg (w:World) (base g:Nat) (b:Int) (h:aV w base g b) (hb:b≤100000000000000):
   Calls Tryz.prog 108 #[.pointer (some ⟨g,0,none⟩)] w (Cu w base g (b+2) 13):=by
 have H:=Hd h;have HB:=Hd hb;clear h hb;go_in;go_wp2_with fail;refine (ku _ base g b _ H.o (by have:=HB.o;omega) (by omega) (by omega)).mono ?_;rintro e w1 ⟨x,rfl,hx0,hx1,hs,hg⟩;have HS:=Hd hs;have hlt:g < w1.heap.size:=dC hs;clear hs;by_cases hx:x=19
 · have hxb:(x == 19)=true:=(by simpa using hx);clear hx;go_wp2_with fail;refine (je _ base g w1.heap.size (b+1) 8 13 _ 9 (0,0) (HS.o.alloc _) (by have:=HB.o;omega) (heap_alloc_new w1 _) (by omega) rfl (by omega) (by omega) rfl).mono ?_;rintro e w2 ⟨y,rfl,hym,hs2,hg2⟩;have HS2:=Hd hs2;clear hs2;go_wp2_with fail;go_ret;exact ⟨_,rfl,hym,HS2.o.more (by omega),(bF hg _).trans hg2⟩
 · have hxb:(x == 19)=false:=(by simpa using hx);clear hx;go_wp2_with fail;refine (je _ base g w1.heap.size (b+1) 6 13 _ 9 (0,0) (HS.o.alloc _) (by have:=HB.o;omega) (heap_alloc_new w1 _) (by omega) rfl (by omega) (by omega) rfl).mono ?_;rintro e w2 ⟨y,rfl,hym,hs2,hg2⟩;have HS2:=Hd hs2;clear hs2;go_wp2_with fail;go_ret;exact ⟨_,rfl,hym,HS2.o.more (by omega),(bF hg _).trans hg2⟩
theorem zh (w:World) (base g:Nat) (b:Int) (h:aV w base g b) (hb:b≤10000000000000):
  Calls Tryz.prog 88 #[.pointer (some ⟨g,0,none⟩)] w (Cu w base g (b+20) 60):=by
 have H:=Hd h;have HB:=Hd hb;clear h hb;go_in;go_wp2_with fail;refine (ku _ base g b _ H.o (by have:=HB.o;omega) (by omega) (by omega)).mono ?_;rintro e w1 ⟨x,rfl,hx0,hx1,hs,hg⟩;have HS:=Hd hs;have hlt1:g < w1.heap.size:=dC hs;clear hs;go_wp2_with fail;all_goals
  refine (gu _ base g w1.heap.size (b+1) 7 0 4 _ 3 (0,0) (HS.o.alloc _) (by have:=HB.o;omega) (heap_alloc_new w1 _) (by omega) rfl (by omega) (by omega) rfl).mono ?_;rintro e w2 ⟨n,rfl,hn0,hn1,hs2,hg2⟩;obtain ⟨n0,rfl⟩:=Int.eq_ofNat_of_zero_le hn0;have HS2:=Hd hs2;have hgf:=(bF hg (.cells #[.int .i64 1, .int .i64 1, .int .i64 2, .int .i64 2, .int .i64 3, .int .i64 0, .int .i64 4] 3)).trans hg2;clear hs2 hg2 hg;go_wp2_with fail;go_loopw [3,5] (fun v i wr=>∃ (T:ByteArray) (k:Nat),v= .string T∧i= .int .i64 (k:Int)∧k≤n0∧T.size≤1+14 * k∧w.grownBy wr (some g)∧Hid (aV wr base g (b+2+3 * k))) (fun _ i _=>n0 - (intOf i).toNat);case atStart=>exact ⟨_,0,rfl,rfl,Nat.zero_le _,by decide,hgf,HS2.o.more (by omega)⟩
  case round=>
   obtain ⟨T,k,rfl,rfl,hk,hT,hgr,hsr⟩:=hrel;clear hgf HS2 HS;have hT4:T.size≤100:=(by omega);by_cases hkn:k < n0
   · by_cases hk0:0 < k;all_goals
       go_wp2_with fail;refine (ku _ base g (b+2+3 * k) _ hsr.o (by have:=HB.o;omega) (by omega) (by omega)).mono ?_;rintro e w3 ⟨y,rfl,hy0,hy1,hs3,hg3⟩;have HS3:=Hd hs3;have hg3' :=hgr.trans hg3;have hlt3:g < w3.heap.size:=dC hs3;clear hs3 hg3;by_cases hy:y=7
       · have hyb:(y == 7)=true:=(by simpa using hy);clear hy;go_wp2_with fail;refine (je _ base g w3.heap.size (b+2+3 * k+1) 4 13 _ 9 (0,0) (HS3.o.alloc _) (by have:=HB.o;omega) (heap_alloc_new w3 _) (by omega) rfl (by omega) (by omega) rfl).mono ?_;rintro e w4 ⟨z,rfl,hzm,hs4,hg4⟩;have HS4:=Hd hs4;have Kb:=(bF hg3' (.cells #[.string ⟨#[46]⟩, .string ⟨#[46,46]⟩, .string ⟨#[]⟩, .string ⟨#[97,47,47,98]⟩] 9)).trans hg4;clear hs4 hg4;go_wp2_with fail;go_roundw;case rel=>exact ⟨_,k+1,rfl,by go_num,by omega,by simp only [ByteArray.size_append];first | omega | (show _+1+_≤_;omega),Kb,HS4.o.more (by omega)⟩
         case measure=>simp [intOf];omega
       · have hyb:(y == 7)=false:=(by simpa using hy);clear hy;go_wp2_with fail;refine (zg _ base g (b+2+3 * k+1) HS3.o (by have:=HB.o;omega)).mono ?_;rintro e w4 ⟨z,rfl,hzm,hs4,hg4⟩;have HS4:=Hd hs4;have Kb:=hg3'.trans hg4;clear hs4 hg4;go_wp2_with fail;go_roundw;case rel=>exact ⟨_,k+1,rfl,by go_num,by omega,by simp only [ByteArray.size_append];first | omega | (show _+1+_≤_;omega),Kb,HS4.o.more (by omega)⟩
         case measure=>simp [intOf];omega
   · go_wp2_with fail;refine (ku _ base g (b+2+3 * k) _ hsr.o (by have:=HB.o;omega) (by omega) (by omega)).mono ?_;rintro e w3 ⟨y,rfl,hy0,hy1,hs3,hg3⟩;have HS3:=Hd hs3;have hg3' :=hgr.trans hg3;clear hs3 hg3;by_cases hy:y=7
     · have hyb:(y == 7)=true:=(by simpa using hy);clear hy;go_wp2_with fail;go_ret;exact ⟨_,rfl,by rw [ByteArray.size_append];show _+1≤_;omega,HS3.o.more (by omega),hg3'⟩
     · have hyb:(y == 7)=false:=(by simpa using hy);clear hy;go_wp2_with fail;go_ret;exact ⟨_,rfl,by omega,HS3.o.more (by omega),hg3'⟩
def jr:Nd:=⟨1,2,493,0,0,1,⟨#[]⟩, []⟩
def Gb:Dv:=⟨2, [jr]⟩
theorem nN {fn:Func} {i j:Nat} (h:fn.results=#[.cell i 28, .tmp j]) (tmps:Array Value) (w:World) (g:Nat) (v:Value) (hp:tmps.getD i undef= .pointer (some ⟨g,0,none⟩)) (hg:Blk w g 28 #[v]):
  (results fn tmps).run Tryz.prog w= .ok (.tuple #[.agg #[v],tmps.getD j undef]) w:=by
 have hp' :tmps[i]?.getD undef= .pointer (some ⟨g,0,none⟩):=by simpa using hp
 simp [results,h,hp',asAddr,run_loadVar_row w g 28 28 #[v] (0,0) _ hg Tryz.underlying28 rfl (bR v)]
def Df (n:Nat) (w:World) (e:Ending) (w' :World):Prop:=
 ∃ (v:Value) (ds:List Dm),e= .returned (.tuple #[.agg #[v], .int .i64 0])∧aC w' w.heap.size v ds∧ds.map Dm.dv=List.replicate n Gb∧Below w.heap.size w w'
structure NwS (w wr:World) (j:Nat):Prop where
 low:Below w.heap.size w wr
 res:Blk wr w.heap.size 28 #[.slice none 0 0]
 o:∃ (v:Value) (es:List Dm),Blk wr (w.heap.size+1) 28 #[v]∧aC wr (w.heap.size+1+1) v es∧es.map Dm.dv=List.replicate j Gb
theorem KC (n:Nat) (h1:1≤n) (h3:n≤3) (w:World):Calls Tryz.prog 79 #[.int .i64 (n:Int)] w (Df n w):=by
 have i1:¬ (n:Int) < 1:=by omega
 have i2:¬ (3:Int) < (n:Int):=by omega
 have hs1:(w.alloc (.cells #[.slice none 0 0] 28)).heap.size=w.heap.size+1:=by simp
 have S0:=Hd (show NwS w ((w.alloc (.cells #[.slice none 0 0] 28)).alloc (.cells #[.slice none 0 0] 28)) 0 from
  ⟨((Below.refl w.heap.size w).alloc (Nat.le_refl _) _).alloc (by rw [hs1];omega) _,(Blk.new w #[.slice none 0 0] 28).alloc _, .slice none 0 0, [],by
   have:=Blk.new (w.alloc (.cells #[.slice none 0 0] 28)) #[.slice none 0 0] 28;rw [hs1] at this;exact this,aC.nil _ _,rfl⟩)
 clear hs1;go_in;go_wp2_with fail;generalize (w.alloc (.cells #[.slice none 0 0] 28)).alloc (.cells #[.slice none 0 0] 28)=w0 at *;clear i1 i2;go_loopw [5] (fun i wr=>∃ j:Nat,j≤n∧i= .int .i64 j∧Hid (NwS w wr j)) (fun i _=>n - (intOf i).toNat);case atStart=>exact ⟨0,Nat.zero_le _,rfl,S0⟩
 case round=>
  clear S0;obtain ⟨j,hj,rfl,HS⟩:=hrel;obtain ⟨v,es,hob,hof,hoe⟩:=HS.o.o;obtain ⟨Ao,co,rfl,_⟩:=hof.own.at;have hel:es.length=j:=by have:=congrArg List.length hoe;simpa using this
  have c0:=hob.cell 0;by_cases hlt:j < n;case pos=>
   have j1:(j:Int) < (n:Int):=(by omega);obtain ⟨wj1,wj2⟩:=bq (q:=j) (n:=3) (by omega) (by omega);have HOB:=Hd hob;have HOF:=Hd hof;have HOE:=Hd hoe;have HEL:=Hd (show es.length≤3 by omega);have RWN:=Hd (aI ENd wr (ndC jr (.slice none 0 0)) 145 ⟨jr,none,0⟩ rfl (Nat.lt_succ_self wr.heap.size));clear hob hof hoe hel;have hsa:(wr.alloc (.cells (ndC jr (.slice none 0 0)) 145)).heap.size=wr.heap.size+1:=(by simp);have HN:=Hd (show ax ENd (wr.alloc (.cells (ndC jr (.slice none 0 0)) 145)) wr.heap.size (.slice (some ⟨wr.heap.size,0,none⟩) 1 1) [(⟨jr,none,0⟩:Nm)] from
    ⟨rfl, .inr ⟨wr.heap.size,1,ndC jr (.slice none 0 0),rfl,Nat.le_refl _,heap_alloc_new wr _,Nat.le_refl _,by unfold maxLen;omega,rfl,rfl⟩⟩)
   have HF2:=Hd ((HOF.o.below ((Below.refl wr.heap.size wr).alloc (Nat.le_refl _) (.cells (ndC jr (.slice none 0 0)) 145))));have RWD:=Hd (aI EDv (wr.alloc (.cells (ndC jr (.slice none 0 0)) 145)) (dvC 2 (.slice (some ⟨wr.heap.size,0,none⟩) 1 1)) 142 ⟨2, [⟨jr,none,0⟩],some ⟨wr.heap.size,0,none⟩,1⟩ rfl (Nat.lt_succ_self _));have HF3:=Hd (HF2.o.below ((Below.refl _ (wr.alloc (.cells (ndC jr (.slice none 0 0)) 145))).alloc (Nat.le_refl _) (.cells (dvC 2 (.slice (some ⟨wr.heap.size,0,none⟩) 1 1)) 142)));go_upto_region 7 with fail;go_wp2_with (at_builtin;refine aj EDv rfl (.tmp 19) (.tmp 23) rfl (w.heap.size+1+1) (.slice Ao es.length co) es rfl HF3.o.own (wr.heap.size+1+1) (some ⟨wr.heap.size+1,0,none⟩) 1 1 [⟨2, [⟨jr,none,0⟩],some ⟨wr.heap.size,0,none⟩,1⟩] rfl rfl (by have:=RWD.o;rw [hsa] at this;exact this) (by have:=HEL.o;simp;omega) (by have:=HOB.o.lt;simp;omega) ?_);intro v9 w9 ho9 hg9 qO;obtain ⟨A9,c9,e9,_⟩:=ho9.at;have e9x:v9= .slice A9 (es.length+1) c9:=(by rw [e9];simp);clear e9;subst e9x;clear c0;have hgw:w.heap.size+1 < wr.heap.size:=HOB.o.lt;have hne:∀ g,g≤w.heap.size+1→(Value.slice Ao es.length co).ownBlock≠some g:=fun g hg e=>by have:=HOF.o.own.ge g e;omega
   have HO9:=Hd (((HOB.o.alloc (.cells (ndC jr (.slice none 0 0)) 145)).alloc (.cells (dvC 2 (.slice (some ⟨wr.heap.size,0,none⟩) 1 1)) 142)).grown hg9 (hne _ (Nat.le_refl _)));have c0:=HO9.o.cell 0;have f0:=HO9.o.free 0;have hfs:=aC.app (d:=⟨2, [⟨jr,none,0⟩],some ⟨wr.heap.size,0,none⟩,1⟩) HF3.o ((HN.o.alloc _).low (by omega)) (by show 1≤1000;omega) (fun x hx=>by
    rw [List.mem_singleton.1 hx];exact ⟨ax.nil _ _,by show (0:Nat)≤1000;omega,by show (0:Nat)≤1000;omega,fun y hy=>by cases hy⟩) (fun d' hd' g e r=>by
    have h1:=(HOF.o.nodes d' hd').1.lt g e;injection r with r;have:wr.heap.size=g:=r;omega) ho9 hg9 (by have:=HEL.o;omega)
   have HN9:=Hd (show NwS w (w9.setCell ⟨w.heap.size+1,0,none⟩ (.slice A9 (es.length+1) c9)) (j+1) from
    ⟨(((HS.o.low.alloc HS.o.low.size _).alloc (by simp;omega) _).grown hg9 (by simp;omega) (fun q e=>by have:=HOF.o.own.ge q e;omega)).setCell (p:=⟨w.heap.size+1,0,none⟩) (by show w.heap.size≤w.heap.size+1;omega) _,
     ((((HS.o.res.alloc _).alloc _).grown hg9 (hne _ (by omega))).af _ (by show w.heap.size≠w.heap.size+1;omega)),
     .slice A9 (es.length+1) c9,_,HO9.o.put 0 _,hfs.far (av w9 (w.heap.size+1) 0 _) (fun q e=>by injection e with e;subst e;exact hfs.old (by omega)),by
      rw [List.map_append,HOE.o,List.replicate_succ'];rfl⟩)
   clear ho9 hg9 qO hne hfs;go_wp2_with fail;go_roundw;case rel=>exact ⟨j+1,hlt,by go_num,HN9⟩
   case measure=>simp [intOf];omega
  case neg=>
   have j1:¬ (j:Int) < (n:Int):=(by omega);have hjn:j=n:=(by omega);have HOB:=Hd hob;have Fq:=Hd HS.o.res;have uw:=Hd HS.o.low;have HFF:=Hd (hof.far (aA wr w.heap.size #[.slice Ao es.length co]) (fun q e=>by injection e with e;subst e;exact hof.old (by omega)));rw [hjn] at hoe;have HOE:=Hd hoe;clear hob hof hoe HS hel hjn;go_wp2_with (first | ((with_reducible refine az ?_ 28 (.tmp 4) ?_ HOB.o ?_ _ Tryz.underlying28 ?_ ?_ ?_);(iterate 4 rfl);exact bR _) | ((with_reducible refine ae ?_ 28 (.tmp 2) (.tmp 26) ?_ Fq.o #[.slice Ao es.length co] ?_ ?_ ?_ ?_ ?_ ?_);(iterate 4 rfl);(exact bR _);rfl;(simp [Value.oneCell'])));refine bodyPost_ret (nN (fn:=Tryz.f79) rfl _ _ w.heap.size (.slice Ao es.length co) rfl (Blk.row Fq.o _)) rfl ?_;exact ⟨_,es,rfl,HFF.o.low (by omega),HOE.o,ai uw.o (Nat.le_refl _) _⟩
def nma (c:UInt8):Bool:=decide (97≤c.toNat) && decide (c.toNat≤122)
def nmd (c:UInt8):Bool:=nma c || (decide (48≤c.toNat) && decide (c.toNat≤57)) || decide (c.toNat=95)
def dw (l:List UInt8):Bool:=match l with
 | []=>false
 | a :: r=>decide (l.length≤16) && nma a && r.all nmd
theorem vY {c:UInt8} (h:nma c=true):nmd c=true:=by unfold nmd;rw [h];rfl
theorem rZ (p:UInt8→Bool) (s:ByteArray) (k:Nat) (h:k < s.size) (hp:(s.data.toList.take k).all p=true) (hc:p s[k]=true):(s.data.toList.take (k+1)).all p=true:=by
 rw [gW s k h,List.all_append,hp];simp [hc]
theorem zu (p:UInt8→Bool) (s:ByteArray) (k:Nat) (h:k < s.size) (hc:p s[k]=false):s.data.toList.all p=false:=by
 rw [← Bool.not_eq_true];intro hall;have:=(List.all_eq_true.1 hall) s[k] (Array.mem_toList_iff.2 (Array.getElem_mem (xs:=s.data) h));rw [hc] at this;cases this
theorem vZ (s:ByteArray) (h0:0 < s.size):dw s.data.toList=(decide (s.size≤16) && nma s[0] && s.data.toList.all nmd):=by
 have hh:s.data.toList=s[0] :: s.data.toList.tail:=by
   have:s.data.toList=s.data.toList.drop 0:=rfl;rw [this,List.drop_eq_getElem_cons (by simpa using h0)];rfl
 have hl:s.data.toList.length=s.size:=Array.length_toList;rw [hh] at hl ⊢;unfold dw;rw [hl,List.all_cons];cases hn:nma s[0]
 · simp [hn]
 · simp [hn,vY hn]
theorem wh {c:UInt8} (h:¬ nmd c=true):¬ (97≤(c.toNat:Int)∧(c.toNat:Int)≤122)∧¬ (48≤(c.toNat:Int)∧(c.toNat:Int)≤57)∧(c.toNat:Int)≠95:=by
 unfold nmd nma at h;simp at h;omega
theorem zw {c:UInt8} (h:nmd c=true):(97≤(c.toNat:Int)∧(c.toNat:Int)≤122)∨(48≤(c.toNat:Int)∧(c.toNat:Int)≤57)∨(c.toNat:Int)=95:=by
 unfold nmd nma at h;simp at h;omega
theorem r9 {c:UInt8} :nma c=true↔97≤(c.toNat:Int)∧(c.toNat:Int)≤122:=by
 unfold nma;simp;omega
theorem qU (s:ByteArray) (h:s.size=0):dw s.data.toList=false:=by
 have:s.data.toList= []:=List.eq_nil_of_length_eq_zero (Array.length_toList.trans h);rw [this];rfl
theorem fQ {s:ByteArray} (h:s.size=0):s.toList= []:=by
 rw [ByteArray.toList_eq];exact List.eq_nil_of_length_eq_zero (Array.length_toList.trans h)
theorem bC {s:ByteArray} (h:0 < s.size):s.toList≠ []:=fun e=>by
 rw [ByteArray.toList_eq] at e;have:s.data.toList.length=s.size:=Array.length_toList;rw [e] at this;simp at this;omega
theorem tJ (s:ByteArray) (w:World) (h0:0 < s.size) (h16:s.size≤16):
  Calls Tryz.prog 239 #[.string s] w fun e w' =>e= .returned (.bool (dw s.data.toList))∧w=w' :=by
 have HN:=Hd (vZ s h0);have d0:decide ((s.size:Int) < 1)=false:=by simp;omega
 have d1:decide (16 < (s.size:Int))=false:=by simp;omega
 go_in
 go_wp2
 go_loop [3] (fun i=>∃ k:Nat,k≤s.size∧i= .int .i64 k∧Hid ((s.data.toList.take k).all nmd=true∧(0 < k→nma s[0]=true))) (fun i=>s.size - (intOf i).toNat);case atStart=>exact ⟨0,Nat.zero_le _,rfl,rfl,fun h=>by omega⟩
 case round=>
  obtain ⟨k,hk,rfl,eU⟩:=hrel;by_cases hlt:k < s.size
  · by_cases hc:nma s[k]=true
    · have H:=Hd (rZ nmd s k hlt eU.o.1 (vY hc));have HC:=Hd hc;obtain ⟨c1,c2⟩:=r9.1 hc;clear hc d0 d1
      go_wp2
      go_round
      case rel=>exact ⟨k+1,by omega,by go_num,H.o,fun _=>by
        by_cases hk0:k=0
        · subst hk0;exact HC.o
        · exact eU.o.2 (by omega)⟩
      case measure=>simp [intOf];omega
    · have hna:(s[k].toNat:Int) < 97∨(97≤(s[k].toNat:Int)∧122 < (s[k].toNat:Int)):=by
        have:¬ (97≤(s[k].toNat:Int)∧(s[k].toNat:Int)≤122):=fun e=>hc (r9.2 e);omega
      by_cases hk0:k=0
      · subst hk0;have H:=Hd (show dw s.data.toList=false by rw [HN.o];simp [hc]);clear hc d0 d1;rcases hna with c1 | ⟨c1,c2⟩
        · go_wp2
          go_ret;exact ⟨um H.o.symm,rfl⟩
        · have c3:decide ((s[0].toNat:Int)≤122)=false:=by simp;omega
          go_wp2
          go_ret;exact ⟨um H.o.symm,rfl⟩
      · have k0:(0:Int) < (k:Int):=(by omega);by_cases hd:nmd s[k]=true
        · have H:=Hd (rZ nmd s k hlt eU.o.1 hd);have h3:(48≤(s[k].toNat:Int)∧(s[k].toNat:Int)≤57)∨(s[k].toNat:Int)=95:=by
            rcases zw hd with h | h
            · omega
            · exact h
          clear hc hd d0 d1 hk0;have hna' :(s[k].toNat:Int) < 97:=(by omega);clear hna;rcases h3 with ⟨c1,c2⟩ | c1
          · go_wp2
            go_round
            case rel=>exact ⟨k+1,by omega,by go_num,H.o,fun _=>eU.o.2 (by omega)⟩
            case measure=>simp [intOf];omega
          · have c2:((s[k].toNat:Int) == 95)=true:=(by simp [c1]);have c4:57 < (s[k].toNat:Int):=(by omega);have c3:48≤(s[k].toNat:Int):=(by omega);clear c1
            go_wp2
            go_round
            case rel=>exact ⟨k+1,by omega,by go_num,H.o,fun _=>eU.o.2 (by omega)⟩
            case measure=>simp [intOf];omega
        · have H:=Hd (show dw s.data.toList=false by rw [HN.o,zu nmd s k hlt (by simpa using hd)];simp);obtain ⟨c1,c2,c3⟩:=wh hd;have c4:((s[k].toNat:Int) == 95)=false:=(by simp [c3]);have hcases:(s[k].toNat:Int) < 48∨(57 < (s[k].toNat:Int)∧(s[k].toNat:Int) < 97)∨122 < (s[k].toNat:Int):=(by omega);clear c1 c2 c3 hc hd d0 d1 hk0 hna;rcases hcases with c1 | ⟨c1,c2⟩ | c1
          · go_wp2
            go_ret;exact ⟨um H.o.symm,rfl⟩
          · have c3:decide ((s[k].toNat:Int)≤57)=false:=by simp;omega
            go_wp2
            go_ret;exact ⟨um H.o.symm,rfl⟩
          · have c3:decide ((s[k].toNat:Int)≤57)=false:=(by simp;omega);have c5:decide ((s[k].toNat:Int)≤122)=false:=by simp;omega
            go_wp2
            go_ret;exact ⟨um H.o.symm,rfl⟩
  · go_wp2
    go_ret;exact ⟨um (by rw [HN.o,eU.o.2 (by omega), ← gm s k (by omega),eU.o.1];simp;omega),rfl⟩
theorem gP (s:ByteArray) (w:World) (hm:s.size≤maxLen):Calls Tryz.prog 239 #[.string s] w fun e w' =>e= .returned (.bool (dw s.data.toList))∧w=w' :=by
 by_cases h0:0 < s.size
 · by_cases h16:s.size≤16
   · exact tJ s w h0 h16
   · unfold maxLen at hm;have H:=Hd (show dw s.data.toList=false by rw [vZ s (by omega)];simp;omega);go_in
     go_wp2
     go_ret;exact ⟨um H.o.symm,rfl⟩
 · have H:=Hd (qU s (by omega));go_in
   go_wp2
   go_ret;exact ⟨um H.o.symm,rfl⟩
abbrev Gn (nm:ByteArray) (kd nu:Int) (tx:ByteArray):Value:= .agg #[.string nm, .int .i64 kd, .int .i64 nu, .string tx]
def bV (nm:ByteArray) (kd nu:Int) (tx:ByteArray):Int:=
 if dw nm.data.toList=false then 22 else if kd < 1∨3 < kd∨(kd≠1∧nu≠0)∨(kd≠2∧tx.size≠0) then 23 else if 640 < tx.size then 20 else 0
theorem qV {nm:ByteArray} {kd nu:Int} {tx:ByteArray} (h:dw nm.data.toList=false):bV nm kd nu tx=22:=if_pos h
theorem dG {nm:ByteArray} {kd nu:Int} {tx:ByteArray} (h:dw nm.data.toList=true) (k:kd < 1∨3 < kd∨(kd≠1∧nu≠0)∨(kd≠2∧tx.size≠0)):bV nm kd nu tx=23:=by
 unfold bV;rw [if_neg (by rw [h];simp),if_pos k]
theorem qX {nm:ByteArray} {kd nu:Int} {tx:ByteArray} (h:dw nm.data.toList=true) (k:¬ (kd < 1∨3 < kd∨(kd≠1∧nu≠0)∨(kd≠2∧tx.size≠0))) (l:640 < tx.size):bV nm kd nu tx=20:=by
 unfold bV;rw [if_neg (by rw [h];simp),if_neg k,if_pos l]
theorem kW {nm:ByteArray} {kd nu:Int} {tx:ByteArray} (h:dw nm.data.toList=true) (k:¬ (kd < 1∨3 < kd∨(kd≠1∧nu≠0)∨(kd≠2∧tx.size≠0))) (l:¬ 640 < tx.size):bV nm kd nu tx=0:=by
 unfold bV;rw [if_neg (by rw [h];simp),if_neg k,if_neg l]
theorem Br (nm:ByteArray) (kd nu:Int) (tx:ByteArray) (w:World) (hm:nm.size≤maxLen) (ht:tx.size≤maxLen):
   Calls Tryz.prog 175 #[Gn nm kd nu tx] w fun e w' =>e= .returned (.int .i64 (bV nm kd nu tx))∧Below w.heap.size w w' :=by
 unfold maxLen at ht;cases hn:dw nm.data.toList
 · have HN:=Hd hn;have H:=Hd (qV (kd:=kd) (nu:=nu) (tx:=tx) hn);clear hn;go_in;go_wp2_with (go_at_call 239;refine (gP _ _ hm).mono ?_;rintro e w' ⟨rfl,rfl⟩;rw [HN.o]);go_ret;exact ⟨uo H.o.symm,(Below.refl _ _).alloc (Nat.le_refl _) _⟩
 · have HN:=Hd hn;have hcs:kd < 1∨3 < kd∨kd=1∨kd=2∨kd=3:=(by omega);rcases hcs with hk | hk | rfl | rfl | rfl
   · have H:=Hd (dG (nu:=nu) (tx:=tx) hn (.inl hk));have k1:(kd != 1)=true:=(by simp;omega);have k2:(kd != 2)=true:=(by simp;omega);have k3:(kd != 3)=true:=(by simp;omega);clear hn;go_in;go_wp2_with (go_at_call 239;refine (gP _ _ hm).mono ?_;rintro e w' ⟨rfl,rfl⟩;rw [HN.o]);go_ret;exact ⟨uo H.o.symm,(Below.refl _ _).alloc (Nat.le_refl _) _⟩
   · have H:=Hd (dG (nu:=nu) (tx:=tx) hn (.inr (.inl hk)));have k1:(kd != 1)=true:=(by simp;omega);have k2:(kd != 2)=true:=(by simp;omega);have k3:(kd != 3)=true:=(by simp;omega);clear hn;go_in;go_wp2_with (go_at_call 239;refine (gP _ _ hm).mono ?_;rintro e w' ⟨rfl,rfl⟩;rw [HN.o]);go_ret;exact ⟨uo H.o.symm,(Below.refl _ _).alloc (Nat.le_refl _) _⟩
   · by_cases hx:tx.size=0
     · have H:=Hd (kW (kd:=1) (nu:=nu) hn (by omega) (show ¬ 640 < tx.size by omega));have e0:tx.toList.isEmpty=true:=(by simpa using fQ hx);have e1:tx.toList= []:=fQ hx;have l1:decide (640 < (tx.size:Int))=false:=(by simp;omega);cases hnz:(nu != 0);all_goals
         clear hn hx;go_in;go_wp2_with (go_at_call 239;refine (gP _ _ hm).mono ?_;rintro e w' ⟨rfl,rfl⟩;rw [HN.o]);go_ret;exact ⟨uo H.o.symm,(Below.refl _ _).alloc (Nat.le_refl _) _⟩
     · have H:=Hd (dG (kd:=1) (nu:=nu) hn (.inr (.inr (.inr ⟨by decide,hx⟩))));have e0:tx.toList.isEmpty=false:=(by simpa using bC (show 0 < tx.size by omega));have e1:tx.toList≠ []:=bC (by omega);cases hnz:(nu != 0);all_goals
         clear hn hx;go_in;go_wp2_with (go_at_call 239;refine (gP _ _ hm).mono ?_;rintro e w' ⟨rfl,rfl⟩;rw [HN.o]);go_ret;exact ⟨uo H.o.symm,(Below.refl _ _).alloc (Nat.le_refl _) _⟩
   · by_cases hz:nu=0
     · subst hz;by_cases hl:640 < tx.size
       · have H:=Hd (qX (kd:=2) (nu:=0) hn (by omega) hl);have e0:tx.toList.isEmpty=false:=(by simpa using bC (show 0 < tx.size by omega));have e1:tx.toList≠ []:=bC (by omega);clear hn;go_in;go_wp2_with (go_at_call 239;refine (gP _ _ hm).mono ?_;rintro e w' ⟨rfl,rfl⟩;rw [HN.o]);go_ret;exact ⟨uo H.o.symm,(Below.refl _ _).alloc (Nat.le_refl _) _⟩
       · have H:=Hd (kW (kd:=2) (nu:=0) hn (by omega) hl);by_cases hx:tx.size=0
         · have e0:tx.toList.isEmpty=true:=(by simpa using fQ hx);have e1:tx.toList= []:=fQ hx;have l1:(tx.size:Int)≤640:=(by omega);clear hn hx;go_in;go_wp2_with (go_at_call 239;refine (gP _ _ hm).mono ?_;rintro e w' ⟨rfl,rfl⟩;rw [HN.o]);go_ret;exact ⟨uo H.o.symm,(Below.refl _ _).alloc (Nat.le_refl _) _⟩
         · have e0:tx.toList.isEmpty=false:=(by simpa using bC (show 0 < tx.size by omega));have e1:tx.toList≠ []:=bC (by omega);clear hn hx;go_in;go_wp2_with (go_at_call 239;refine (gP _ _ hm).mono ?_;rintro e w' ⟨rfl,rfl⟩;rw [HN.o]);go_ret;exact ⟨uo H.o.symm,(Below.refl _ _).alloc (Nat.le_refl _) _⟩
     · have H:=Hd (dG (kd:=2) (tx:=tx) hn (.inr (.inr (.inl ⟨by decide,hz⟩))));have hnz:(nu != 0)=true:=(by simp [hz]);clear hn hz;go_in;go_wp2_with (go_at_call 239;refine (gP _ _ hm).mono ?_;rintro e w' ⟨rfl,rfl⟩;rw [HN.o]);go_ret;exact ⟨uo H.o.symm,(Below.refl _ _).alloc (Nat.le_refl _) _⟩
   · by_cases hz:nu=0
     · subst hz;by_cases hx:tx.size=0
       · have H:=Hd (kW (kd:=3) (nu:=0) hn (by omega) (show ¬ 640 < tx.size by omega));have e0:tx.toList.isEmpty=true:=(by simpa using fQ hx);have e1:tx.toList= []:=fQ hx;have l1:(tx.size:Int)≤640:=(by omega);clear hn hx;go_in;go_wp2_with (go_at_call 239;refine (gP _ _ hm).mono ?_;rintro e w' ⟨rfl,rfl⟩;rw [HN.o]);go_ret;exact ⟨uo H.o.symm,(Below.refl _ _).alloc (Nat.le_refl _) _⟩
       · have H:=Hd (dG (kd:=3) (nu:=0) hn (.inr (.inr (.inr ⟨by decide,hx⟩))));have e0:tx.toList.isEmpty=false:=(by simpa using bC (show 0 < tx.size by omega));have e1:tx.toList≠ []:=bC (by omega);clear hn hx;go_in;go_wp2_with (go_at_call 239;refine (gP _ _ hm).mono ?_;rintro e w' ⟨rfl,rfl⟩;rw [HN.o]);go_ret;exact ⟨uo H.o.symm,(Below.refl _ _).alloc (Nat.le_refl _) _⟩
     · have H:=Hd (dG (kd:=3) (tx:=tx) hn (.inr (.inr (.inl ⟨by decide,hz⟩))));have hnz:(nu != 0)=true:=(by simp [hz]);clear hn hz;go_in;go_wp2_with (go_at_call 239;refine (gP _ _ hm).mono ?_;rintro e w' ⟨rfl,rfl⟩;rw [HN.o]);go_ret;exact ⟨uo H.o.symm,(Below.refl _ _).alloc (Nat.le_refl _) _⟩
abbrev KG (fd op nu:Int) (tx:ByteArray) (ot:Int):Array Value:=#[.int .i64 fd, .int .i64 op, .int .i64 nu, .string tx, .int .i64 ot]
attribute [local irreducible] wJ pJ wK wL
end Go.Proofs.YtollifnnpihfdaaGreatDoor
namespace Go.Proofs.YtollifnnpihfdaaGreatDoor
structure Ctx where
 ph:Int
 p:Nat→Int
 a:Nat→Int
 ex:Int
 ty:Int
 comm:ByteArray
 exe:ByteArray
structure Itm where
 dev:Int
 ino:Int
 uid:Int
 gid:Int
 kind:Int
def Itm.none:Itm:=⟨0,0,0,0,0⟩
def KH (c:Ctx) (i:Itm) (f:Int):Int:=
 if f≤8 then c.p (f - 1).toNat
 else if f≤12 then c.a (f - 9).toNat
 else if f=15 then c.ex
 else if f=16 then (if 0≤c.ex then 1 else 0)
 else if f=17 then i.ino
 else if f=18 then i.dev
 else if f=19 then i.uid
 else if f=20 then i.gid
 else if f=21 then i.kind
 else c.ty
def KI (c:Ctx) (f:Int):Bool:=if 15≤f∧f≤21 then decide (c.ph=2) else decide (f≠22∨c.ty≠0)
def MF (a b:Int):Int:=bits .and .i64 a b
def MG (op a b:Int):Bool:=
 if op=1 then a == b else if op=2 then a != b else if op=3 then decide (a < b) else if op=4 then decide (a≤b)
 else if op=5 then decide (b < a) else if op=6 then decide (b≤a) else if op=7 then MF a b != 0 else MF a b == b
def wQ (fd op nu:Int) (tx:ByteArray) (ot:Int):Bool:=
 decide (iJ fd op nu tx ot 1=0) || (decide (iJ fd op nu tx ot 2=0) || (decide (iJ fd op nu tx ot 3=0) || (decide (iJ fd op nu tx ot 4=0) || decide (iJ fd op nu tx ot 5=0))))
def wR (c:Ctx) (fd op nu:Int) (tx:ByteArray) (ot:Int) (i:Itm):Bool:=
 if pJ fd=true then (((if fd=14 then c.comm else c.exe).toList == tx.toList) == decide (op=1)) else MG op (KH c i fd) (if ot=0 then nu else KH c i ot)
def KJ (i:Itm):Bool:=decide (i.dev≠0∨i.ino≠0)
def zz (c:Ctx) (L:List Itm) (fd op nu:Int) (tx:ByteArray) (ot:Int):Bool:=
 if wQ fd op nu tx ot=false∨KI c fd=false∨(ot≠0∧KI c ot=false) then false
 else if wL fd=false∧wL ot=false then wR c fd op nu tx ot Itm.none
 else L.any fun i=>KJ i && wR c fd op nu tx ot i
def NoC (c:UInt8) (s:ByteArray):Prop:=∀ b∈s.data.toList,b≠c
def joinL (c:UInt8):List ByteArray→List UInt8
 | []=> []
 | x :: L=>x.data.toList ++ Lib.joinTail [c] (L.map (·.data.toList))
theorem mJ (c:UInt8) (x y:ByteArray) (L:List ByteArray):joinL c (x :: y :: L)=x.data.toList ++ c :: joinL c (y :: L):=by
 simp [joinL,Lib.joinTail]
structure IsW (c:UInt8) (s:ByteArray) (L:List ByteArray):Prop where
 ne:L≠ []
 no:∀ x∈L,NoC c x
 eq:s.data.toList=joinL c L
theorem bsz (s:ByteArray):s.data.toList.length=s.size:=by simp
theorem IsW.size {c:UInt8} {s:ByteArray} {L:List ByteArray} (h:IsW c s L):L.length≤s.size+1∧∀ x∈L,x.size≤s.size:=by
 have key:∀ L:List ByteArray,L.length≤(joinL c L).length+1∧∀ x∈L,x.size≤(joinL c L).length:=by
  intro L;induction L with
  | nil=>simp
  | cons x L ih=>
   cases L with
   | nil=>
    refine ⟨by simp,fun z hz=>?_⟩;rw [List.mem_singleton.1 hz, ← bsz];simp [joinL,Lib.joinTail]
   | cons y L=>
    rw [mJ];obtain ⟨h1,h2⟩:=ih;refine ⟨by simp at h1 ⊢;omega,?_⟩;intro z hz;rcases List.mem_cons.1 hz with rfl | hz
    · rw [← bsz];simp
    · have:=h2 z hz;simp;omega
 have:=key L;rw [← h.eq,bsz] at this;exact this
def kC (c:UInt8) (D:List ByteArray):List UInt8:=(D.map (fun d=>d.data.toList ++ [c])).flatten
theorem mK (c:UInt8) (x:ByteArray):∀ D:List ByteArray,kC c D ++ x.data.toList=joinL c (D ++ [x])
 | []=>by simp [kC,joinL,Lib.joinTail]
 | [d]=>by simp [kC,joinL,Lib.joinTail]
 | d :: e :: D=>by
  have ih:=mK c x (e :: D);have h1:kC c (d :: e :: D)=d.data.toList ++ c :: kC c (e :: D):=by simp [kC]
  have h2:d :: e :: D ++ [x]=d :: e :: (D ++ [x]):=rfl;have h3:e :: D ++ [x]=e :: (D ++ [x]):=rfl;rw [h1,h2,mJ, ← h3, ← ih];simp
structure iq (c:UInt8) (s:ByteArray) (D:List ByteArray) (m i:Nat):Prop where
 le:m≤i
 top:i≤s.size
 eq:s.data.toList.take m=kC c D
 no:∀ d∈D,NoC c d
 rest:∀ j,m≤j→j < i→s.data.toList[j]? ≠some c
theorem iq.start (c:UInt8) (s:ByteArray):iq c s [] 0 0:=⟨Nat.le_refl _,Nat.zero_le _,rfl,by simp,fun _ _ h=>absurd h (Nat.not_lt_zero _)⟩
theorem iq.next {c:UInt8} {s:ByteArray} {D:List ByteArray} {m i:Nat} (h:iq c s D m i) (hi:i < s.size) (hc:s[i]≠c):iq c s D m (i+1):=
 ⟨by have:=h.le;omega,hi,h.eq,h.no,fun j h1 h2=>by
  by_cases e:j=i
  · subst e;rw [List.getElem?_eq_getElem (by rw [bsz];exact hi)];intro e;exact hc (Option.some.inj e)
  · exact h.rest j h1 (by omega)⟩
theorem iw (s:ByteArray) (a b:Nat):(s.extract a b).data.toList=(s.data.toList.take b).drop a:=by
 rw [Lib.extract_data];simp [List.drop_take]
theorem iq.piece {c:UInt8} {s:ByteArray} {D:List ByteArray} {m i:Nat} (h:iq c s D m i):NoC c (s.extract m i):=by
 intro b hb e;rw [iw] at hb;obtain ⟨j,hj,he⟩:=List.mem_iff_getElem.1 hb;rw [List.getElem_drop,List.getElem_take] at he;rw [List.length_drop,List.length_take] at hj;refine h.rest (m+j) (by omega) (by omega) ?_;rw [List.getElem?_eq_getElem (by omega),he,e]
theorem iq.cut {c:UInt8} {s:ByteArray} {D:List ByteArray} {m i:Nat} (h:iq c s D m i) (hi:i < s.size) (hc:s[i]=c):iq c s (D ++ [s.extract m i]) (i+1) (i+1):=by
 have hi' :i < s.data.toList.length:=by rw [bsz];exact hi
 refine ⟨Nat.le_refl _,hi,?_,?_,fun j h1 h2=>absurd h2 (by omega)⟩
 · have hg:s.data.toList[i]=c:=hc;have e1:s.data.toList.take (i+1)=s.data.toList.take i ++ [c]:=(by rw [List.take_succ_eq_append_getElem hi',hg]);have e2:s.data.toList.take i=s.data.toList.take m ++ (s.extract m i).data.toList:=by
     rw [iw]
     conv=>lhs;rw [← List.take_append_drop m (s.data.toList.take i),List.take_take,Nat.min_eq_left h.le]
   rw [e1,e2,h.eq];simp [kC]
 · intro d hd;rcases List.mem_append.1 hd with h1 | h1
   · exact h.no d h1
   · rw [List.mem_singleton.1 h1];exact h.piece
theorem iq.done {c:UInt8} {s:ByteArray} {D:List ByteArray} {m:Nat} (h:iq c s D m s.size):IsW c s (D ++ [s.extract m s.size]):=by
 refine ⟨by simp,?_,?_⟩
 · intro d hd;rcases List.mem_append.1 hd with h1 | h1
   · exact h.no d h1
   · rw [List.mem_singleton.1 h1];exact h.piece
 · rw [← mK, ← h.eq,iw];have:s.data.toList.take s.size=s.data.toList:=List.take_of_length_le (by rw [bsz];exact Nat.le_refl _);rw [this,List.take_append_drop]
theorem iq.count {c:UInt8} {s:ByteArray} {D:List ByteArray} {m i:Nat} (h:iq c s D m i):D.length≤m:=by
 have:∀ D:List ByteArray,D.length≤(kC c D).length:=by
  intro D;induction D with
  | nil=>simp
  | cons d D ih=>
   have:kC c (d :: D)=d.data.toList ++ c :: kC c D:=(by simp [kC]);rw [this];simp;omega
 have h1:=this D;rw [← h.eq,List.length_take] at h1;omega
open Go.RowKit
def hasB (m:Nat) (n:Int):Bool:=decide (0≤n) && decide (n < 32) && m.testBit n.toNat
open Go.ChangeShapes Go.WideShapes Go.RowKit
def bD (w:World) (B:Nat) (A:Option Addr) (ss:List ByteArray):Prop:=∀ k (hk:k < ss.length),∃ ad:Addr,A=some ad∧ad.block < B∧w.cell? (ad.add k)=some (.string (ss[k]'hk))
theorem iE (a:Addr) (n:Nat):(a.add n).block=a.block:=by unfold Addr.add;split <;> rfl
theorem bD.keep {w w' :World} {B B' :Nat} {A:Option Addr} {ss:List ByteArray} (h:bD w B A ss) (hb:Below B' w w') (hB:B≤B'):bD w' B A ss:=fun k hk=>by
 obtain ⟨ad,e,hl,hc⟩:=h k hk;exact ⟨ad,e,hl,(hb.cell (by rw [iE];omega)).trans hc⟩
theorem bD.more {w:World} {B B' :Nat} {A:Option Addr} {ss:List ByteArray} (h:bD w B A ss) (hB:B≤B'):bD w B' A ss:=fun k hk=>by
 obtain ⟨ad,e,hl,hc⟩:=h k hk;exact ⟨ad,e,by omega,hc⟩
theorem bD.nil {w:World} {B:Nat} {A:Option Addr} :bD w B A []:=fun k hk=>by simp at hk
def jv (ss:List ByteArray) (m:Nat):Bool:=ss.any fun s=>decide (m < s.size)
theorem wS {ss:List ByteArray} {m k:Nat} (hk:k < ss.length) (h:m < ss[k].size):jv ss m=true:=by
 unfold jv;rw [List.any_eq_true];exact ⟨ss[k],List.getElem_mem hk,by simpa using h⟩
theorem sF {ss:List ByteArray} {m:Nat} (h:∀ j (hj:j < ss.length),ss[j].size≤m):jv ss m=false:=by
 unfold jv;rw [List.any_eq_false];intro s hs;obtain ⟨j,hj,rfl⟩:=List.getElem_of_mem hs;simpa using h j hj
theorem Tryz.GG:(Tryz.prog.info? 9).map (fun i=>(i.zero,i.size,i.bytes))=some (some (.string ⟨#[]⟩),1,16):=by kernel_rfl
def bJ (w:World) (base:Nat) (v:Value) (L:List ByteArray):Prop:=w.ownsRow base 9 1 v L.length (L.map Value.string)
theorem bJ.o {w:World} {base:Nat} {v:Value} {L:List ByteArray} (h:bJ w base v L):w.ownsRow base 9 1 v L.length (L.map Value.string):=h
theorem bJ.nil (w:World) (base:Nat):bJ w base (.slice none 0 0) []:=World.ownsRow_nil _ _ _ _
theorem bJ.alloc {w:World} {base:Nat} {v:Value} {L:List ByteArray} (h:bJ w base v L) (o:Obj):bJ (w.alloc o) base v L:=World.ownsRow.alloc h o
theorem bJ.below {w w' :World} {base:Nat} {v:Value} {L:List ByteArray} (h:bJ w base v L) (hb:Below w.heap.size w w'):bJ w' base v L:=
 World.ownsRow.kept (row:=none) h ⟨hb.os,hb.tape,hb.output,hb.size,fun i hi _=>hb.block i hi⟩ (by
  cases hv:v.ownBlock with
  | none=>exact .inl rfl
  | some k=>exact .inr (by simp))
end Go.Proofs.YtollifnnpihfdaaGreatDoor
