import Derived.Test.YtnpaoepkpdileaaGreatDoorF08
import Derived.Lib.AtoiAllCases
set_option maxRecDepth 100000
set_option maxHeartbeats 64000000
set_option linter.all false
namespace Go.Proofs.YtnpaoepkpdileaaGreatDoor
open Go.RowKit
theorem wS (w:World) (base g:Nat) (b:Int) (h:aP w base g b) (hb:b≤100000000000000):
   Calls Tryz.prog 50 #[.pointer (some ⟨g,0,none⟩)] w (yV w base g (b+2) 13):=by
 have H:=Hd h;have HB:=Hd hb;clear h hb;go_in;go_wp2_with fail;refine (iP _ base g b _ H.o (by have:=HB.o;omega) (by omega) (by omega)).mono ?_;rintro e w1 ⟨x,rfl,hx0,hx1,hs,hg⟩;have HS:=Hd hs;have hlt:g < w1.heap.size:=dh hs;clear hs;by_cases hx:x=19
 · have hxb:(x == 19)=true:=(by simpa using hx);clear hx;go_wp2_with fail;refine (iQ _ base g w1.heap.size (b+1) 8 13 _ 9 (0,0) (HS.o.alloc _) (by have:=HB.o;omega) (heap_alloc_new w1 _) (by omega) rfl (by omega) (by omega) rfl).mono ?_;rintro e w2 ⟨y,rfl,hym,hs2,hg2⟩;have HS2:=Hd hs2;clear hs2;go_wp2_with fail;go_ret;exact ⟨_,rfl,hym,HS2.o.more (by omega),(bg hg _).trans hg2⟩
 · have hxb:(x == 19)=false:=(by simpa using hx);clear hx;go_wp2_with fail;refine (iQ _ base g w1.heap.size (b+1) 6 13 _ 9 (0,0) (HS.o.alloc _) (by have:=HB.o;omega) (heap_alloc_new w1 _) (by omega) rfl (by omega) (by omega) rfl).mono ?_;rintro e w2 ⟨y,rfl,hym,hs2,hg2⟩;have HS2:=Hd hs2;clear hs2;go_wp2_with fail;go_ret;exact ⟨_,rfl,hym,HS2.o.more (by omega),(bg hg _).trans hg2⟩
theorem wT (w:World) (base g:Nat) (b:Int) (h:aP w base g b) (hb:b≤10000000000000):
  Calls Tryz.prog 28 #[.pointer (some ⟨g,0,none⟩)] w (yV w base g (b+20) 60):=by
 have H:=Hd h;have HB:=Hd hb;clear h hb;go_in;go_wp2_with fail;refine (iP _ base g b _ H.o (by have:=HB.o;omega) (by omega) (by omega)).mono ?_;rintro e w1 ⟨x,rfl,hx0,hx1,hs,hg⟩;have HS:=Hd hs;have hlt1:g < w1.heap.size:=dh hs;clear hs;go_wp2_with fail;all_goals
  refine (bU _ base g w1.heap.size (b+1) 7 0 4 _ 3 (0,0) (HS.o.alloc _) (by have:=HB.o;omega) (heap_alloc_new w1 _) (by omega) rfl (by omega) (by omega) rfl).mono ?_;rintro e w2 ⟨n,rfl,hn0,hn1,hs2,hg2⟩;obtain ⟨n0,rfl⟩:=Int.eq_ofNat_of_zero_le hn0;have HS2:=Hd hs2;have hgf:=(bg hg (.cells #[.int .i64 1, .int .i64 1, .int .i64 2, .int .i64 2, .int .i64 3, .int .i64 0, .int .i64 4] 3)).trans hg2;clear hs2 hg2 hg;go_wp2_with fail;go_loopw [3,5] (fun v i wr=>∃ (T:ByteArray) (k:Nat),v= .string T∧i= .int .i64 (k:Int)∧k≤n0∧T.size≤1+14 * k∧w.grownBy wr (some g)∧Hid (aP wr base g (b+2+3 * k))) (fun _ i _=>n0 - (intOf i).toNat);case atStart=>exact ⟨_,0,rfl,rfl,Nat.zero_le _,by decide,hgf,HS2.o.more (by omega)⟩
  case round=>
   obtain ⟨T,k,rfl,rfl,hk,hT,hgr,hsr⟩:=hrel;clear hgf HS2 HS;have hT4:T.size≤100:=(by omega);by_cases hkn:k < n0
   · by_cases hk0:0 < k;all_goals
       go_wp2_with fail;refine (iP _ base g (b+2+3 * k) _ hsr.o (by have:=HB.o;omega) (by omega) (by omega)).mono ?_;rintro e w3 ⟨y,rfl,hy0,hy1,hs3,hg3⟩;have HS3:=Hd hs3;have hg3' :=hgr.trans hg3;have hlt3:g < w3.heap.size:=dh hs3;clear hs3 hg3;by_cases hy:y=7
       · have hyb:(y == 7)=true:=(by simpa using hy);clear hy;go_wp2_with fail;refine (iQ _ base g w3.heap.size (b+2+3 * k+1) 4 13 _ 9 (0,0) (HS3.o.alloc _) (by have:=HB.o;omega) (heap_alloc_new w3 _) (by omega) rfl (by omega) (by omega) rfl).mono ?_;rintro e w4 ⟨z,rfl,hzm,hs4,hg4⟩;have HS4:=Hd hs4;have EZ:=(bg hg3' (.cells #[.string ⟨#[46]⟩, .string ⟨#[46,46]⟩, .string ⟨#[]⟩, .string ⟨#[97,47,47,98]⟩] 9)).trans hg4;clear hs4 hg4;go_wp2_with fail;go_roundw;case rel=>exact ⟨_,k+1,rfl,by go_num,by omega,by simp only [ByteArray.size_append];first | omega | (show _+1+_≤_;omega),EZ,HS4.o.more (by omega)⟩
         case measure=>simp [intOf];omega
       · have hyb:(y == 7)=false:=(by simpa using hy);clear hy;go_wp2_with fail;refine (wS _ base g (b+2+3 * k+1) HS3.o (by have:=HB.o;omega)).mono ?_;rintro e w4 ⟨z,rfl,hzm,hs4,hg4⟩;have HS4:=Hd hs4;have EZ:=hg3'.trans hg4;clear hs4 hg4;go_wp2_with fail;go_roundw;case rel=>exact ⟨_,k+1,rfl,by go_num,by omega,by simp only [ByteArray.size_append];first | omega | (show _+1+_≤_;omega),EZ,HS4.o.more (by omega)⟩
         case measure=>simp [intOf];omega
   · go_wp2_with fail;refine (iP _ base g (b+2+3 * k) _ hsr.o (by have:=HB.o;omega) (by omega) (by omega)).mono ?_;rintro e w3 ⟨y,rfl,hy0,hy1,hs3,hg3⟩;have HS3:=Hd hs3;have hg3' :=hgr.trans hg3;clear hs3 hg3;by_cases hy:y=7
     · have hyb:(y == 7)=true:=(by simpa using hy);clear hy;go_wp2_with fail;go_ret;exact ⟨_,rfl,by rw [ByteArray.size_append];show _+1≤_;omega,HS3.o.more (by omega),hg3'⟩
     · have hyb:(y == 7)=false:=(by simpa using hy);clear hy;go_wp2_with fail;go_ret;exact ⟨_,rfl,by omega,HS3.o.more (by omega),hg3'⟩
theorem fU {P:Program} {ops:Array Oper} {o:Oper} {a:Act} {w:World} {K:Act→World→Prop} {Q:Exit→Act→World→Prop} {F:Prop} (hgd:o.guard=none) (t:TypeId) (parts:Array (Nat×Operand)) (ho:o.op= .build t parts)
  (cells:Array Value) (hf:P.built t (parts.map fun (i,x)=>(i,a.eval x)).toList=some cells) (h:K (a.put o.dst (.agg cells)) w):
  if Region.wanted o (yielded ops a.tmps)=true then Oper.wp P o a w K Q else F:=by
 have hw:Region.wanted o (yielded ops a.tmps)=true:=by simp [Region.wanted,hgd]
 rw [if_pos hw];exact wp_build t parts ho (by rw [hf];rfl) (by rw [hf];exact h)
theorem af {P:Program} {ops:Array Oper} {o:Oper} {a:Act} {w:World} {K:Act→World→Prop} {Q:Exit→Act→World→Prop} {F:Prop} (hgd:o.guard=none) (ty:TypeId) (x y:Operand) (ho:o.op= .store ty x y)
  {g:Nat} {t:TypeId} {old:Array Value} (hg:Blk w g t old) (cells:Array Value) (hx:a.eval x= .pointer (some ⟨g,0,none⟩)) (hy:a.eval y= .agg cells)
  (hi:(P.info? ty).map (·.size)=some cells.size) (hold:old.size=cells.size) (h1:cells.all (·.oneCell')=true) (h:K (a.put o.dst undef) (w.setRow g cells)):
  if Region.wanted o (yielded ops a.tmps)=true then Oper.wp P o a w K Q else F:=by
 have hw:Region.wanted o (yielded ops a.tmps)=true:=by simp [Region.wanted,hgd]
 rw [if_pos hw];exact wp_store_row ty x y ho g cells hx hy t old hg hi hold h1 h
def I64 (n:Int):Prop:= -9223372036854775808≤n∧n≤9223372036854775807
open Go
section
variable {P:Program} {ops:Array Oper} {Q:Exit→Act→World→Prop} {md:Region.Mode} {S:World→Prop}
def lU (md:Region.Mode) (ops:Array Oper):Nat→Nat→Nat→Bool
 | 0,r,j=>r == j
 | f+1,r,j=>r == j || ((ops[j]?).map fun o=>o.after.toList.any fun e=>Region.binds md e && lU md ops f r e.on).getD false
def qD (md:Region.Mode) (ops:Array Oper) (p:Nat→Bool) (j:Nat):Bool:=((ops[j]?).map fun o=>o.after.toList.all fun e=> !Region.binds md e || p e.on).getD false
def qE (md:Region.Mode) (ops:Array Oper) (listed:Array Bool) (rem:List Nat):Bool:=
 listed.size == ops.size && rem.all (fun i=>decide (i < ops.size) && !listed.getD i true) &&
 (List.range ops.size).all (fun i=> !listed.getD i false || qD md ops (fun k=>listed.getD k false) i) &&
 rem.all (fun i=>qD md ops (fun k=>decide (k < i) && (listed.getD k false || rem.contains k)) i) &&
 (List.range ops.size).all (fun j=>listed.getD j false || rem.contains j || rem.all (fun r=>lU md ops 8 r j)) && decide rem.Nodup
theorem kH {p:Nat→Bool} {j:Nat} (h:qD md ops p j=true):∃ o,ops[j]? =some o∧∀ e∈o.after,Region.binds md e=true→p e.on=true:=by
 unfold qD at h;cases ho:ops[j]? with
 | none=>rw [ho] at h;cases h
 | some o=>
  rw [ho] at h;refine ⟨o,rfl,fun e he hb=>?_⟩;have h1:=List.all_eq_true.1 h e (Array.mem_toList_iff.2 he);rw [hb] at h1;simpa using h1
theorem mO {listed:Array Bool} (hc:∀ i,listed.getD i false=true→∃ o,ops[i]? =some o∧∀ e∈o.after,Region.binds md e=true→listed.getD e.on false=true):
  ∀ (f r j:Nat),lU md ops f r j=true→listed.getD j false=true→listed.getD r false=true:=by
 intro f;induction f with
 | zero=>intro r j h hj;have:=eq_of_beq h;subst this;exact hj
 | succ f ih=>
  intro r j h hj;unfold lU at h;rcases Bool.or_eq_true_iff.1 h with h | h
  · have:=eq_of_beq h;subst this;exact hj
  · obtain ⟨o,ho,hall⟩:=hc j hj;rw [ho] at h;obtain ⟨e,he,hb⟩:=List.any_eq_true.1 h;obtain ⟨hb1,hb2⟩:=Bool.and_eq_true_iff.1 hb;exact ih r e.on hb2 (hall e (Array.mem_toList_iff.1 he) hb1)
theorem oC {listed:Array Bool} (hc:∀ i,listed.getD i false=true→∃ o,ops[i]? =some o∧∀ e∈o.after,Region.binds md e=true→listed.getD e.on false=true)
   {r j:Nat} (hne:r≠j) (hr:lU md ops 8 r j=true) {o:Oper} (ho:ops[j]? =some o) (hall:∀ e∈o.after,Region.binds md e=true→listed.getD e.on false=true):listed.getD r false=true:=by
 unfold lU at hr;rcases Bool.or_eq_true_iff.1 hr with h | h
 · exact absurd (eq_of_beq h) hne
 · rw [ho] at h;obtain ⟨e,he,hb⟩:=List.any_eq_true.1 h;obtain ⟨hb1,hb2⟩:=Bool.and_eq_true_iff.1 hb;exact mO hc 7 r e.on hb2 (hall e (Array.mem_toList_iff.1 he) hb1)
theorem jZ (l:Array Bool) (i j:Nat) (d:Bool):(l.setIfInBounds i true).getD j d=if i=j∧i < l.size then true else l.getD j d:=by
 simp only [Array.getD_eq_getD_getElem?,Array.getElem?_setIfInBounds];by_cases h:i=j
 · subst h;by_cases h2:i < l.size
   · simp [h2]
   · simp [h2]
 · simp [h]
theorem rA (rem:List Nat) (l:Array Bool) (j:Nat):(rem.foldl (fun l i=>l.setIfInBounds i true) l)[j]? =if j∈rem∧j < l.size then some true else l[j]? :=by
 induction rem generalizing l with
 | nil=>simp
 | cons x rem ih=>
  rw [List.foldl_cons,ih,Array.size_setIfInBounds,Array.getElem?_setIfInBounds];by_cases h1:j < l.size
  · by_cases h2:j∈rem
    · simp [h1,h2]
    · by_cases h3:x=j
      · subst h3;simp [h1,h2]
      · simp [h1,h2,h3,Ne.symm h3]
  · by_cases h3:x=j
    · subst h3;simp [h1]
    · simp [h1,h3]
theorem pG (rem:List Nat) (J:World→Prop) (V:Nat→Value→World→Prop) (A:(Nat→Value)→Act) (bT:Array Bool) (fuel' mP:Nat) (hfu:mP=fuel' +rem.length)
  (hok:qE md ops bT rem=true)
  (hput:∀ i o u v,ops[i]? =some o→i∈rem→(A u).put o.dst v=A (fun j=>if j=i then v else u j))
  (hstep:∀ i o u w,ops[i]? =some o→i∈rem→S w→J w→(∀ e∈o.after,Region.binds md e=true→e.on∈rem→V e.on (u e.on) w)→
    wpOp P ops Q i (fun a' w' =>∃ v,a' =(A u).put o.dst v∧V i v w' ∧S w' ∧J w' ∧∀ j∈rem,∀ x,V j x w→V j x w') (A u) w)
  (u0:Nat→Value) (w:World) (hS:S w) (hJ:J w)
  (hend:∀ u w,S w→J w→(∀ i∈rem,V i (u i) w)→wpAnyH P md ops Q S fuel' (rem.foldl (fun l i=>l.setIfInBounds i true) bT) (A u) w):
  wpAnyH P md ops Q S mP bT (A u0) w:=by
 subst hfu;unfold qE at hok;simp only [Bool.and_eq_true,List.all_eq_true,List.mem_range,Bool.or_eq_true,Bool.not_eq_true',decide_eq_true_eq,beq_iff_eq,List.contains_iff_mem] at hok;obtain ⟨⟨⟨⟨⟨hsz,FV⟩,hcl⟩,hpre⟩,hoth⟩,hnd⟩:=hok
 suffices H:∀ (c:Nat) (left:List Nat) (listed:Array Bool) (u:Nat→Value) (w:World),left.Nodup→left.length=c→(∀ i,i∈left→i∈rem)→listed.size=ops.size→
    (∀ i,listed.getD i false=true→∃ o,ops[i]? =some o∧∀ e∈o.after,Region.binds md e=true→listed.getD e.on false=true)→
    (∀ i,i ∉ rem→listed[i]? =bT[i]?)→(∀ i∈rem,listed.getD i false= !left.contains i)→(∀ i∈rem,i ∉ left→V i (u i) w)→S w→J w→
    wpAnyH P md ops Q S (fuel' +c) listed (A u) w by
  refine H rem.length rem bT u0 w hnd rfl (fun _ h=>h) hsz ?_ (fun _ _=>rfl) ?_ (fun i h1 h2=>absurd h1 h2) hS hJ
  · intro i hi;have hlt:i < ops.size:=by
      rcases Nat.lt_or_ge i ops.size with h | h
      · exact h
      · rw [Array.getD_eq_getD_getElem?,Array.getElem?_eq_none (by omega)] at hi;cases hi
    rcases hcl i hlt with h | h
    · rw [h] at hi;cases hi
    · exact kH h
  · intro i hi;obtain ⟨h1,h2⟩:=FV i hi;rw [show rem.contains i=true from by simpa using hi];have h3:i < bT.size:=(by omega);simp only [Array.getD_eq_getD_getElem?,Array.getElem?_eq_getElem h3,Option.getD_some] at h2 ⊢;simpa using h2
 intro c;induction c with
 | zero=>
  intro left listed u w _ hlen _ hls _ hout hin hV hS hJ;have hl:left= []:=List.eq_nil_of_length_eq_zero hlen;subst hl;have he:listed=rem.foldl (fun l i=>l.setIfInBounds i true) bT:=by
    apply Array.ext_getElem?;intro i;rw [rA];by_cases hi:i∈rem
    · have h1:=(FV i hi).1;have h2:=hin i hi;have h3:i < listed.size:=(by omega);rw [if_pos ⟨hi,by omega⟩];simp only [Array.getD_eq_getD_getElem?,Array.getElem?_eq_getElem h3,Option.getD_some] at h2 ⊢;rw [h2];rfl
    · rw [if_neg (fun h=>hi h.1)];exact hout i hi
  subst he;exact hend u w hS hJ (fun i hi=>hV i hi (by simp))
 | succ c ih=>
  intro left listed u w hnd hlen hsub hls hcl' hout hin hV hS hJ;have hmin:∃ i,i∈left∧∀ k∈left,i≤k:=by
    have:left≠ []:=(by intro e;subst e;cases hlen);clear hlen hnd hsub hV hin;induction left with
    | nil=>exact absurd rfl this
    | cons x l ih=>
      by_cases hl:l= []
      · subst hl;exact ⟨x,List.mem_cons_self ..,fun k hk=>by rw [List.mem_singleton] at hk;omega⟩
      · obtain ⟨i,h1,h2⟩:=ih hl;by_cases hx:x≤i
        · exact ⟨x,List.mem_cons_self ..,fun k hk=>by rcases List.mem_cons.1 hk with rfl | hk;exact Nat.le_refl _;exact Nat.le_trans hx (h2 k hk)⟩
        · exact ⟨i,List.mem_cons_of_mem _ h1,fun k hk=>by rcases List.mem_cons.1 hk with rfl | hk;omega;exact h2 k hk⟩
  have hun:∀ i∈left,listed.getD i true=false:=fun i hi=>by
    have h1:=hin i (hsub i hi);have h3:i < listed.size:=(by have:=(FV i (hsub i hi)).1;omega);rw [show left.contains i=true from by simpa using hi] at h1;simp only [Array.getD_eq_getD_getElem?,Array.getElem?_eq_getElem h3,Option.getD_some] at h1 ⊢;rw [h1];rfl
  have CQ:∃ i,i∈Region.ready md ops listed:=by
    obtain ⟨i,hi,hm⟩:=hmin;obtain ⟨o,ho,hp⟩:=kH (hpre i (hsub i hi));refine ⟨i,mem_ready.2 ⟨hun i hi,o,ho,fun e he hb=>?_⟩⟩;have h1:=hp e he hb;simp only [Bool.and_eq_true,decide_eq_true_eq,Bool.or_eq_true,List.contains_iff_mem] at h1;obtain ⟨hlt,h1⟩:=h1;by_cases hr:e.on∈rem
    · rw [hin _ hr];have:e.on ∉ left:=fun h=>by have:=hm _ h;omega
      simpa using this
    · rcases h1 with h1 | h1
      · rw [Array.getD_eq_getD_getElem?,hout _ hr, ← Array.getD_eq_getD_getElem?];exact h1
      · exact absurd h1 hr
  refine ⟨fun h=>?_,fun i hi=>?_⟩
  · obtain ⟨i,hi⟩:=CQ;rw [h] at hi;cases hi
  · obtain ⟨Hy,o,ho,hall⟩:=mem_ready.1 hi;have hlt:i < ops.size:=(Array.getElem?_eq_some_iff.1 ho).1;have hil:i < listed.size:=(by omega);have Hz:listed.getD i false=false:=by
      simp only [Array.getD_eq_getD_getElem?,Array.getElem?_eq_getElem hil,Option.getD_some] at Hy ⊢;exact Hy
    by_cases hir:i∈rem
    · have CR:i∈left:=by
        have h1:=hin i hir;rw [Hz] at h1;simpa using h1.symm
      refine wpOp_mono ?_ (hstep i o u w ho hir hS hJ (fun e he hb hr=>hV _ hr ?_))
      · rintro a' w' ⟨v,rfl,hv,hS',hJ',hk⟩;refine ⟨hS',?_⟩;rw [hput i o u v ho hir];refine ih (left.erase i) (listed.setIfInBounds i true) _ w' (hnd.erase i) (by rw [List.length_erase_of_mem CR,hlen];rfl) (fun k hk' =>hsub k (List.mem_of_mem_erase hk')) (by rw [Array.size_setIfInBounds];exact hls) ?_ ?_ ?_ ?_ hS' hJ'
        · intro k hkk;rw [jZ] at hkk;split at hkk
          · rename_i h;obtain ⟨rfl,_⟩:=h;exact ⟨o,ho,fun e he hb=>by rw [jZ];split;rfl;exact hall e he hb⟩
          · obtain ⟨o',ho',h'⟩:=hcl' k hkk;exact ⟨o',ho',fun e he hb=>by rw [jZ];split;rfl;exact h' e he hb⟩
        · intro k hkr;rw [Array.getElem?_setIfInBounds_ne (fun e=>hkr (by rw [← e];exact hir))];exact hout k hkr
        · intro k hkr;rw [jZ];by_cases hik:i=k
          · subst hik;rw [if_pos ⟨rfl,hil⟩];have:i ∉ left.erase i:=fun h=>by
              have:=(List.Nodup.mem_erase_iff hnd).1 h;exact this.1 rfl
            simp [this]
          · rw [if_neg (fun h=>hik h.1),hin k hkr];congr 1;have:k∈left.erase i↔k∈left:=List.mem_erase_of_ne (Ne.symm hik);by_cases hkl:k∈left
            · simp [hkl,this]
            · simp [hkl,this]
        · intro k hkr hkl;by_cases hik:k=i
          · subst hik;simp only [if_true];exact hv
          · simp only [hik,if_false];refine hk k hkr _ (hV k hkr (fun h=>hkl ((List.mem_erase_of_ne hik).2 h)))
      · have h1:=hall e he hb;rw [hin _ hr] at h1;simpa using h1
    · exfalso;obtain ⟨r,hr⟩:∃ r,r∈left:=(by obtain ⟨r,hr,_⟩:=hmin;exact ⟨r,hr⟩);have h0:bT.getD i false=false:=by
        rw [Array.getD_eq_getD_getElem?, ← hout i hir, ← Array.getD_eq_getD_getElem?];exact Hz
      rcases hoth i hlt with (h1 | h1) | h1
      · rw [h0] at h1;cases h1
      · exact hir h1
      · have h2:=oC hcl' (fun e=>hir (by rw [← e];exact hsub r hr)) (h1 r (hsub r hr)) ho hall;rw [hin r (hsub r hr),show left.contains r=true from by simpa using hr] at h2;cases h2
end
section
variable {P:Program} {ops:Array Oper} {Q:Exit→Act→World→Prop} {md:Region.Mode} {S J:World→Prop} {V:Nat→Value→World→Prop} {A:(Nat→Value)→Act} {G:World→World→Prop} {all:List Nat}
def vD (md:Region.Mode) (o:Oper) (j:Nat):Bool:=o.after.toList.any fun e=>Region.binds md e && e.on == j
def CS (ops:Array Oper) (A:(Nat→Value)→Act) (rem:List Nat):Prop:=∀ i∈rem,∀ o,ops[i]? =some o→∀ u v,(A u).put o.dst v=A (fun j=>if j=i then v else u j)
def bB (P:Program) (ops:Array Oper) (Q:Exit→Act→World→Prop) (md:Region.Mode) (S:World→Prop) (J:World→Prop) (V:Nat→Value→World→Prop) (A:(Nat→Value)→Act) (G:World→World→Prop) (all rem:List Nat):Prop:=
 ∀ i∈rem,∀ o,ops[i]? =some o→∀ u w,S w→J w→(∀ j,all.contains j=true→vD md o j=true→V j (u j) w)→∀ K:Act→World→Prop,Shut (∀ v a' w',a' =(A u).put o.dst v→V i v w' →G w w' →K a' w')→
  if Region.wanted o (yielded ops (A u).tmps)=true then Oper.wp P o (A u) w K Q else K ((A u).put o.dst undef) w
theorem bB.nil:bB P ops Q md S J V A G all []:=fun _ h=>by cases h
theorem bB.cons {i:Nat} {o:Oper} {rem:List Nat} (ho:ops[i]? =some o)
   (h:∀ u w,S w→J w→(∀ j,all.contains j=true→vD md o j=true→V j (u j) w)→∀ K:Act→World→Prop,Shut (∀ v a' w',a' =(A u).put o.dst v→V i v w' →G w w' →K a' w')→
    if Region.wanted o (yielded ops (A u).tmps)=true then Oper.wp P o (A u) w K Q else K ((A u).put o.dst undef) w)
   (t:bB P ops Q md S J V A G all rem):bB P ops Q md S J V A G all (i :: rem):=fun k hk o' ho' =>by
 rcases List.mem_cons.1 hk with rfl | hk
 · rw [ho] at ho';injection ho' with ho';subst ho';exact h
 · exact t k hk o' ho'
theorem pI (rem:List Nat) (J:World→Prop) (V:Nat→Value→World→Prop) (A:(Nat→Value)→Act) (G:World→World→Prop) {bT:Array Bool} (fuel' :Nat) {mP:Nat} (hfu:mP=fuel' +rem.length)
  (hok:qE md ops bT rem=true) (hG:∀ w w',G w w' →(S w→S w')∧(J w→J w')∧∀ j x,V j x w→V j x w') (hput:CS ops A rem) (hstep:bB P ops Q md S J V A G rem rem)
  {a:Act} (u0:Nat→Value) (ha:a=A u0) {w:World} (hS:S w) (hJ:J w)
  (hend:∀ u w,S w→J w→(∀ i,rem.contains i=true→V i (u i) w)→wpAnyH P md ops Q S fuel' (rem.foldl (fun l i=>l.setIfInBounds i true) bT) (A u) w):
  wpAnyH P md ops Q S mP bT a w:=by
 subst ha;refine pG rem J V A bT fuel' mP hfu hok (fun i o u v ho hi=>hput i hi o ho u v) (fun i o u w ho hi hS hJ hpre=>?_) u0 w hS hJ (fun u w hS hJ hV=>hend u w hS hJ (fun i hi=>hV i (by simpa using hi)));refine wpOp_step ho (fun K hK=>hstep i hi o ho u w hS hJ (fun j hj hw=>?_) K (fun v a' w' h0 h1 h3=>hK _ _ ⟨v,h0,h1,(hG w w' h3).1 hS,(hG w w' h3).2.1 hJ,fun j _ x hx=>(hG w w' h3).2.2 j x hx⟩));unfold vD at hw;obtain ⟨e,he,hb⟩:=List.any_eq_true.1 hw;obtain ⟨hb1,hb2⟩:=Bool.and_eq_true_iff.1 hb;have:=eq_of_beq hb2;subst this;exact hpre e (Array.mem_toList_iff.1 he) hb1 (by simpa using hj)
def H6 (u:Nat→Value) (k:Nat) (x:Value) (j:Nat):Value:=if j=k then x else u j
theorem vE {u:Nat→Value} {k:Nat} {x:Value} (h:u k=x):H6 u k x=u:=by
 funext j;unfold H6;split
 · rename_i e;rw [e];exact h.symm
 · rfl
def bS (a:Act) (ds:List (Nat×Tmp)) (u:Nat→Value):Act:=ds.foldl (fun a p=>a.put (some p.2) (u p.1)) a
theorem bZ (a:Act) (p:Nat×Tmp) (ds:List (Nat×Tmp)) (u:Nat→Value):bS a (p :: ds) u=bS (a.put (some p.2) (u p.1)) ds u:=rfl
theorem oD (d:Tmp) (v:Value):∀ (ds:List (Nat×Tmp)) (a:Act) (u:Nat→Value),(∀ p∈ds,p.2≠d)→bS (a.put (some d) v) ds u=(bS a ds u).put (some d) v
 | [],_,_,_=>rfl
 | p :: ds,a,u,h=>by
  rw [bZ,bZ, ← oD d v ds _ u (fun q hq=>h q (List.mem_cons_of_mem _ hq)),Act.put_comm];intro e he;injection he with he;subst he;intro h2;injection h2 with h2;exact h p (List.mem_cons_self ..) h2
theorem iL:∀ (ds:List (Nat×Tmp)) (a:Act) (u u' :Nat→Value),(∀ p∈ds,u p.1=u' p.1)→bS a ds u=bS a ds u'
 | [],_,_,_,_=>rfl
 | p :: ds,a,u,u',h=>by
  rw [bZ,bZ,h p (List.mem_cons_self ..)];exact iL ds _ u u' (fun q hq=>h q (List.mem_cons_of_mem _ hq))
theorem vF (a:Act) (d:Tmp) (v v' :Value):(a.put (some d) v).put (some d) v' =a.put (some d) v' :=by
 simp [Act.put]
theorem oF (i:Nat) (d:Tmp) (v:Value):∀ (ds:List (Nat×Tmp)) (a:Act) (u:Nat→Value),(ds.map (·.1)).Nodup→(ds.map (·.2)).Nodup→(i,d)∈ds→(bS a ds u).put (some d) v=bS a ds (fun j=>if j=i then v else u j)
 | [],_,_,_,_,h=>by cases h
 | p :: ds,a,u,h1,h2,h=>by
  rw [List.map_cons,List.nodup_cons] at h1 h2;rcases List.mem_cons.1 h with h | h
  · subst h;rw [bZ,bZ, ← oD d v ds _ u (fun q hq e=>h2.1 (List.mem_map.2 ⟨q,hq,e⟩)),vF,if_pos rfl];exact iL ds _ _ _ (fun q hq=>by rw [if_neg (fun e=>h1.1 (List.mem_map.2 ⟨q,hq,e⟩))])
  · have hne:p.1≠i:=fun e=>h1.1 (List.mem_map.2 ⟨(i,d),h,e.symm⟩);rw [bZ,bZ,if_neg hne];exact oF i d v ds _ u h1.2 h2.2 h
theorem xD (a:Act) (d:Tmp):a.put (some d) (a.tmps.getD d undef)=a:=by
 obtain ⟨ts,ds⟩:=a;simp only [Act.put];congr 1;apply Array.ext_getElem?;intro k;rw [Array.getElem?_setIfInBounds];by_cases h:d=k
 · subst h;rw [if_pos rfl];by_cases h2:d < ts.size
   · rw [if_pos h2,Array.getD_eq_getD_getElem?,Array.getElem?_eq_getElem h2];rfl
   · rw [if_neg h2,Array.getElem?_eq_none (Nat.le_of_not_lt h2)]
 · rw [if_neg h]
def H7 (a:Act) (ds:List (Nat×Tmp)) (i:Nat):Value:=match ds.find? (fun p=>p.1 == i) with | some p=>a.tmps.getD p.2 undef | none=>undef
theorem lV (a:Act) (u:Nat→Value):∀ ds:List (Nat×Tmp),(∀ p∈ds,u p.1=a.tmps.getD p.2 undef)→bS a ds u=a
 | [],_=>rfl
 | p :: ds,h=>by
  rw [bZ,h p (List.mem_cons_self ..),xD];exact lV a u ds (fun q hq=>h q (List.mem_cons_of_mem _ hq))
theorem lW:∀ (ds:List (Nat×Tmp)),(ds.map (·.1)).Nodup→∀ p∈ds,ds.find? (fun q=>q.1 == p.1)=some p
 | [],_,_,h=>by cases h
 | x :: ds,h1,p,h=>by
  rw [List.map_cons,List.nodup_cons] at h1;rcases List.mem_cons.1 h with h | h
  · subst h;simp
  · have hne:(x.1 == p.1)=false:=by
     simp only [beq_eq_false_iff_ne,ne_eq];exact fun e=>h1.1 (List.mem_map.2 ⟨p,h,e.symm⟩)
    rw [List.find?_cons,hne];exact lW ds h1.2 p h
def xE (ops:Array Oper) (rem:List Nat) (ds:List (Nat×Tmp)):Bool:=
 rem.all (fun i=>match ops[i]? with | some o=>(match o.dst with | some d=>ds.contains (i,d) | none=>ds.all (fun p=>p.1 != i)) | none=>true) && decide (ds.map (·.1)).Nodup && decide (ds.map (·.2)).Nodup
theorem rC {rem:List Nat} {ds:List (Nat×Tmp)} (h:xE ops rem ds=true) (a:Act):CS ops (bS a ds) rem:=fun i hi o ho u v=>by
 unfold xE at h;simp only [Bool.and_eq_true,decide_eq_true_eq] at h;obtain ⟨⟨h1,h2⟩,h3⟩:=h;have h4:=List.all_eq_true.1 h1 i hi;rw [ho] at h4;simp only at h4;cases hd:o.dst with
 | some d=>
  rw [hd] at h4;exact oF i d v ds a u h2 h3 (by simpa using h4)
 | none=>
  rw [hd] at h4;refine iL ds a _ _ (fun p hp=>?_);have h5:=List.all_eq_true.1 h4 p hp;rw [if_neg (by simpa using h5)]
theorem bE (rem:List Nat) (ds:List (Nat×Tmp)) (J:World→Prop) (V:Nat→Value→World→Prop) (G:World→World→Prop) {bT:Array Bool} (fuel' :Nat) {mP:Nat} {a:Act} {w:World} (hS:S w) (hJ:J w) (hfu:mP=fuel' +rem.length)
  (hok:qE md ops bT rem=true) (hds:xE ops rem ds=true) (hG:∀ w w',G w w' →(S w→S w')∧(J w→J w')∧∀ j x,V j x w→V j x w') (hstep:bB P ops Q md S J V (bS a ds) G rem rem)
  (hend:∀ u w,S w→J w→(∀ i,rem.contains i=true→V i (u i) w)→wpAnyH P md ops Q S fuel' (rem.foldl (fun l i=>l.setIfInBounds i true) bT) (bS a ds u) w):
  wpAnyH P md ops Q S mP bT a w:=by
 refine pI rem J V (bS a ds) G fuel' hfu hok hG (rC hds a) hstep (H7 a ds) (lV a _ ds (fun p hp=>?_)).symm hS hJ hend;have h1:(ds.map (·.1)).Nodup:=by
  unfold xE at hds;simp only [Bool.and_eq_true,decide_eq_true_eq] at hds;exact hds.1.2
 unfold H7;rw [lW ds h1 p hp]
end
theorem rE:dM .i64=#[.string ⟨#[102,111,114,107]⟩, .int .i64 0, .int .i64 0, .int .i64 0, .int .i64 0, .string ⟨#[101,120,101,99,118,101]⟩, .int .i64 0, .int .i64 1, .int .i64 0, .int .i64 4, .string ⟨#[101,120,105,116]⟩, .int .i64 1, .int .i64 0, .int .i64 0, .int .i64 0, .string ⟨#[115,101,116,117,105,100]⟩, .int .i64 1, .int .i64 0, .int .i64 0, .int .i64 0, .string ⟨#[115,101,116,103,105,100]⟩, .int .i64 1, .int .i64 0, .int .i64 0, .int .i64 0, .string ⟨#[108,111,103,105,110]⟩, .int .i64 1, .int .i64 0, .int .i64 0, .int .i64 0, .string ⟨#[111,112,101,110]⟩, .int .i64 2, .int .i64 1, .int .i64 0, .int .i64 0, .string ⟨#[99,108,111,115,101]⟩, .int .i64 1, .int .i64 0, .int .i64 0, .int .i64 0, .string ⟨#[108,105,110,107]⟩, .int .i64 0, .int .i64 2, .int .i64 0, .int .i64 0, .string ⟨#[115,121,109,108,105,110,107]⟩, .int .i64 0, .int .i64 1, .int .i64 1, .int .i64 1, .string ⟨#[117,110,108,105,110,107]⟩, .int .i64 0, .int .i64 1, .int .i64 0, .int .i64 0, .string ⟨#[109,107,100,105,114]⟩, .int .i64 1, .int .i64 1, .int .i64 0, .int .i64 0, .string ⟨#[114,109,100,105,114]⟩, .int .i64 0, .int .i64 1, .int .i64 0, .int .i64 0, .string ⟨#[114,101,110,97,109,101]⟩, .int .i64 0, .int .i64 2, .int .i64 0, .int .i64 0, .string ⟨#[99,104,109,111,100]⟩, .int .i64 1, .int .i64 1, .int .i64 0, .int .i64 0, .string ⟨#[99,104,111,119,110]⟩, .int .i64 2, .int .i64 1, .int .i64 0, .int .i64 0, .string ⟨#[99,104,100,105,114]⟩, .int .i64 0, .int .i64 1, .int .i64 0, .int .i64 0, .string ⟨#[109,111,117,110,116]⟩, .int .i64 1, .int .i64 1, .int .i64 0, .int .i64 0, .string ⟨#[117,109,111,117,110,116]⟩, .int .i64 1, .int .i64 0, .int .i64 0, .int .i64 0, .string ⟨#[99,111,110,110,101,99,116]⟩, .int .i64 1, .int .i64 0, .int .i64 1, .int .i64 1, .string ⟨#[107,105,108,108]⟩, .int .i64 2, .int .i64 0, .int .i64 0, .int .i64 0, .string ⟨#[116,114,117,110,99,97,116,101]⟩, .int .i64 1, .int .i64 1, .int .i64 0, .int .i64 0]:=rfl
attribute [local irreducible] dM fq
theorem yJ (w:World):Calls Tryz.prog 73 #[] w fun e w' =>e= .returned (.slice (some ⟨w.heap.size,0,none⟩) 22 22)∧jT w' w.heap.size (dM .i64)∧Below w.heap.size w w' :=by
 go_in
 go_wp2
 go_ret;exact ⟨rfl,⟨110,(0,0),(heap_alloc_new w _).trans (congrArg (fun c=>some (Obj.cells c 110 (0,0))) rE.symm)⟩,(Below.refl _ _).alloc (Nat.le_refl _) _⟩
end Go.Proofs.YtnpaoepkpdileaaGreatDoor
namespace Go.Proofs.YtnpaoepkpdileaaGreatDoor
open Go.RowKit
theorem oH {fn:Func} {a b c d:Tmp} (h:fn.results=#[.tmp a, .tmp b, .tmp c, .tmp d]) (tmps:Array Value) (P:Program) (w:World):
  (results fn tmps).run P w= .ok (.tuple #[tmps.getD a undef,tmps.getD b undef,tmps.getD c undef,tmps.getD d undef]) w:=by
 simp [results,h]
attribute [local irreducible] fq dM
theorem yK (w:World):Calls Tryz.prog 72 #[] w fun e w' =>e= .returned (.int .i64 22)∧Below w.heap.size w w' :=by
 go_in;go_wp2_with fail;refine (yJ _).mono ?_;rintro e w1 ⟨rfl,_,hb⟩;go_wp2_with fail;go_ret;exact ⟨rfl,hb⟩
end Go.Proofs.YtnpaoepkpdileaaGreatDoor
