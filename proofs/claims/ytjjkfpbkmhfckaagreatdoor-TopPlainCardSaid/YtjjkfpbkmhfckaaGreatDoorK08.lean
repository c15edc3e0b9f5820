import Derived.Test.YtjjkfpbkmhfckaaGreatDoorK06
import Derived.Test.YtjjkfpbkmhfckaaGreatDoorK03
import Derived.Handy
import Derived.Test.YtjjkfpbkmhfckaaGreatDoorAbsAB
set_option linter.unusedVariables false
set_option linter.unusedSimpArgs false
set_option maxHeartbeats 1000000
set_option maxRecDepth 10000
namespace Go.TravelAbs
open Go.RowKit Go.TravelBase
theorem FnS.lend {P:Program} {f:FuncId} {x r:List UInt8} {i n:Nat} {args:List AV} (hn:i+n≤x.length) (h:FnS P f (.by_ ((x.drop i).take n)::args) [] (.fr (.by_ r)) []) (hT:∀ y∈args,Tr y):FnS P f (.sl 0 1 i n::args) [.by_ x] (.fr (.by_ r)) [.by_ x]:=by
  intro w S rows vs hslt hgl hvs hargs hlent hinj;obtain ⟨hB,hcap⟩:=hlent 0 _ rfl;obtain ⟨hg,⟨cur,T,hcur,hsz⟩,hns⟩:=hB.row (by simp) hcap;have hes:(rows 0).es=1:=hB.es;have hcell:∀ j,j<x.length→w.cell? ⟨(rows 0).g,j,none⟩=some (.int .u8 ((x.getD j 0).toNat:Int)):=by
    intro j hj;obtain ⟨_,q2⟩:=hB.rd j hj;obtain ⟨u,h5,h6⟩:=q2 0 (bA (x.getD j 0)) rfl;rw [h6.lit_inv] at h5;rw [hes,Nat.mul_one,Nat.add_zero] at h5;exact h5
  let S2:CSet:=fun b o=>S b o∨(b=(rows 0).g∧o<x.length)
  have hst:∀ b o,S b o→S2 b o∧w.cell? ⟨b,o,none⟩=w.cell? ⟨b,o,none⟩:=fun b o q=>⟨.inl q,rfl⟩;have hs0:∀ o,¬ S (rows 0).g o:=fun o=>hns o (.inl rfl);refine (h w S2 rows vs (fun b o q=>?_) (hgl.mono hst) (by simpa using hvs) (fun j y v hy hv=>?_) (fun p c q=>by simp at q) (fun p q hp=>by simp at hp)).mono ?_
  · rcases q with q | ⟨rfl,_⟩
    · exact hslt b o q
    · exact hg
  · match j,hy with
    | 0,hy =>
      simp only [List.getElem?_cons_zero,Option.some.injEq] at hy;subst hy;have h1:=hargs 0 _ v rfl hv;cases h1 with
      | sl q1 q2 q3 q4 q5 q6 =>
        simp only [mL] at q1;rw [if_pos (by simp)] at q1;injection q1 with q1;subst q1;refine .by_ (by simp;omega) (by omega) (by omega) q6 ?_;rcases Nat.eq_zero_or_pos n with hn0 | hpos
        · exact .inl hn0
        · have hlen:x.length≤(rows 0).cap:=hB.len;refine .inr ⟨(rows 0).g,i,by rw [q5 (by omega),hes,Nat.mul_one],fun p hp=>⟨.inr ⟨rfl,by omega⟩,?_⟩⟩;rw [hcell _ (by omega)];congr 3
          simp only [List.getD];rw [List.getElem?_take,if_pos hp,List.getElem?_drop]
    | j+1,hy =>
      have hy':args[j]? = some y:=by simpa using hy
      have h1:=hargs (j+1) y v (by simpa using hy') hv;exact (hT y (List.mem_of_getElem? hy') _ _ _ _ h1 _).mono hst fun _ _ q=>q
  · rintro e w' ⟨v,S',m',rfl,C,hv⟩;obtain ⟨row,h1,h2⟩:=C.blk 1000 ⟨.by_ r,0,false⟩ rfl;have hBr:=h2 (by simp);have hge:0<row.cap→w.heap.size≤row.g:=fun hc=>((hBr.row (by simp) hc).1).resolve_right fun q=>by cases q.1
    have hsame:∀ g,g<w.heap.size→w'.heap[g]? = w.heap[g]?:=fun g hg=>C.frm.block g hg (fun ⟨p,hp,_⟩=>absurd hp (Nat.not_lt_zero p));let S3:CSet:=fun b o=>S' b o∧b ≠ (rows 0).g
    let m3:RMap:=fun k=>if k=0 then some (rows 0) else m' k
    have hst3:∀ b o,S b o→S3 b o∧w'.cell? ⟨b,o,none⟩=w.cell? ⟨b,o,none⟩:=fun b o q=>⟨⟨C.s0 b o (.inl q),fun e=>hs0 o (e ▸ q)⟩,cell_of_heap (hsame b (hslt b o q)) o⟩;have hdom:∀ k,k ≠ 1000→m' k=none:=fun k hk=>C.dom k (by
      show lk [(1000,_)] k=none;simp [lk,hk])
    refine ⟨v,S3,m3,rfl,⟨fun p hp=>?_,⟨C.frm.os,C.frm.tape,C.frm.output,C.frm.size,fun g hg _=>hsame g hg,fun _ _ q=>q.elim,Nat.zero_le _⟩,fun b o q=>(hst3 b o q).1,fun b o q=>?_,fun b o q=>C.slt b o q.1,fun k hk=>?_,fun k b hk=>?_,fun k k' b b' q q' g1 g2 g3 g4 _ _ g7 g8 g9=>?_,⟨hgl.mono hst3,fun _ _ _ q=>q.elim⟩⟩,?_⟩
    · have:p=0:=by
        have hp:p<1:=hp;omega
      subst this;rfl
    · rcases C.s1 b o q.1 with (h3 | ⟨h3,_⟩) | h3
      · exact .inl h3
      · exact absurd h3 q.2
      · exact .inr (.inl (h3.resolve_right fun q=>by cases q.1))
    · change lk [(1000,(⟨.by_ r,0,false⟩:Blk)),(0,(⟨.by_ x,0,true⟩:Blk))] k=_ at hk
      simp only [lk] at hk;split at hk
      · cases hk
      · split at hk
        · cases hk
        · rename_i k1 k2;simp only [m3];rw [if_neg k2];exact hdom k k1
    · change lk [(1000,(⟨.by_ r,0,false⟩:Blk)),(0,(⟨.by_ x,0,true⟩:Blk))] k=_ at hk
      simp only [lk] at hk;split at hk
      · rename_i k1;subst k1;injection hk with hk;subst hk;refine ⟨row,h1,fun _=>⟨hBr.es,hBr.len,hBr.max,fun p hp=>?_,fun q=>absurd q (by simp),fun _ hc=>?_⟩⟩
        · obtain ⟨q1,q2⟩:=hBr.rd p hp;refine ⟨q1,fun j y hy=>?_⟩;obtain ⟨u,q3,q4⟩:=q2 j y hy;refine ⟨u,q3,?_⟩;simp only [cAt,cl_bA] at hy;have hb:∃ b,y=bA b:=by
            match j,hy with
            | 0,hy=>exact ⟨_,by simpa using hy.symm⟩
          obtain ⟨b,rfl⟩:=hb;rw [q4.lit_inv];exact .lit _
        · obtain ⟨q1,q2,q3⟩:=hBr.row (by simp) hc;exact ⟨.inl (hge hc),q2,fun o ho q=>q3 o ho q.1⟩
      · split at hk
        · rename_i k2;subst k2;injection hk with hk;subst hk;refine ⟨rows 0,rfl,fun _=>⟨hB.es,hB.len,hB.max,fun p hp=>?_,fun q=>absurd q (by simp),fun _ hc=>⟨⟨0,Nat.zero_lt_one,rfl⟩,⟨cur,T,(hsame _ hg).trans hcur,hsz⟩,fun o _ q=>q.2 rfl⟩⟩⟩;obtain ⟨q1,q2⟩:=hB.rd p hp;refine ⟨q1,fun j y hy=>?_⟩;obtain ⟨u,q3,q4⟩:=q2 j y hy;refine ⟨u,(cell_of_heap (hsame _ hg) _).trans q3,?_⟩;simp only [cAt,cl_bA] at hy;have hb:∃ b,y=bA b:=by
            match j,hy with
            | 0,hy=>exact ⟨_,by simpa using hy.symm⟩
          obtain ⟨b,rfl⟩:=hb;rw [q4.lit_inv];exact .lit _
        · cases hk
    · have hk1:∀ (k:Nat) (b:Blk),lk ((rcv 1000 (.fr (.by_ r))).2++lentH [.by_ x] 0) k=some b→k=1000∨k=0:=fun k b hk=>by
        simp only [rcv,rcvP,fc,lentH,List.cons_append,List.nil_append,lk] at hk;split at hk
        · rename_i e;exact .inl e
        · split at hk
          · rename_i e;exact .inr e
          · cases hk
      rcases hk1 k b g1 with rfl | rfl <;> rcases hk1 k' b' g2 with rfl | rfl
      · rfl
      · simp only [m3] at g3 g4;rw [if_neg (by decide),h1] at g3;rw [if_pos trivial] at g4;injection g3 with g3;injection g4 with g4;subst g3 g4;have:=hge g7;omega
      · simp only [m3] at g3 g4;rw [if_pos trivial] at g3;rw [if_neg (by decide),h1] at g4;injection g3 with g3;injection g4 with g4;subst g3 g4;have:=hge g8;omega
      · rfl
    · simp only [rcv,rcvP,fv,cE,cN] at hv ⊢;obtain ⟨r',A,q1,q2,q3,q4,q5,q6,rfl⟩:=hv.sl_inv;exact .sl (by simp only [m3];rw [if_neg (by decide)];exact q1) q2 q3 q4 q5 q6
theorem FnS.given {P:Program} {f:FuncId} {fn:Func} {c:Code} {pre:List AV} {es n:Nat} {ct r:AV} (hf:P.funcs[f]? = some fn) (hb:fn.body=some c) {N:Nat} (hN:fn.ntmps=N) (hn:pre.length+1≤N) (hT:∀ x∈pre,Tr x) (hc:TrC ct)
    (h:∀ X:Cx,X.nl=1→WA P X c (FQ P X fn r []) ⟨tmArgs (pre++[.sl 1000 es 0 n]) 0,[(1000,⟨ct,0,false⟩),(0,⟨.any,3,true⟩)],2000,N⟩) :
    FnS P f (pre++[.sl 0 es 0 n]) [ct] r []:=by
  refine FnS.ofG hf hb hN (by simp;omega) (by simp) (by simp) fun X hX a w hR=>h X hX a w ?_;obtain ⟨S,m,hM,htm⟩:=hR.mem;let ρ:Nat→Nat:=fun k=>if k=1000 then 0 else k
  let H':List (Nat × Blk):=[(1000,⟨ct,0,false⟩),(0,⟨.any,3,true⟩)]
  have hM:Mem X [(0,⟨ct,0,false⟩)] S m w:=hM;have hcase:∀ k b,lk H' k=some b→(k=1000∧b=⟨ct,0,false⟩)∨(k=0∧b=⟨.any,3,true⟩):=fun k b hk=>by
    simp only [H',lk] at hk;split at hk
    · rename_i e;injection hk with hk;exact .inl ⟨e,hk.symm⟩
    · split at hk
      · rename_i e;injection hk with hk;exact .inr ⟨e,hk.symm⟩
      · cases hk
  obtain ⟨m',hM',hm'⟩:=hM.weakG ρ (H':=H') (fun p hp=>by
      have hp:p<1:=by rw [hX] at hp;exact hp
      obtain rfl:p=0:=by omega
      exact ⟨rfl,rfl⟩) (fun k k' b b' h1 h2 h3 h4 _=>by
      rcases hcase k b h1 with ⟨rfl,rfl⟩ | ⟨rfl,rfl⟩ <;> rcases hcase k' b' h2 with ⟨rfl,rfl⟩ | ⟨rfl,rfl⟩
      · rfl
      · simp at h4
      · simp at h3
      · rfl) (fun k b hk=>by
      rcases hcase k b hk with ⟨rfl,rfl⟩ | ⟨rfl,rfl⟩
      · exact ⟨⟨ct,0,false⟩,rfl,fun _=>.tr hc⟩
      · exact ⟨⟨ct,0,false⟩,rfl,fun h=>by simp at h⟩)
  refine ⟨hR.size,hR.defers,fun k hk=>?_,S,m',hM',fun t=>?_⟩
  · have hk:2000≤k:=hk;show lk H' k=none;simp only [H',lk];rw [if_neg (by omega),if_neg (by omega)]
  · have e1:=tmArgs_lk (pre++[.sl 1000 es 0 n]) 0 t;have e0:=tmArgs_lk (pre++[.sl 0 es 0 n]) 0 t;rw [Nat.zero_add] at e1 e0;have h0:=htm t;simp only [gt,e1,e0] at h0 ⊢;rcases Nat.lt_trichotomy t pre.length with ht | ht | ht
    · rw [List.getElem?_append_left ht] at h0 ⊢;rw [List.getElem?_eq_getElem ht] at h0 ⊢;exact hT _ (List.getElem_mem ht) _ _ _ _ h0 _
    · subst ht;rw [List.getElem?_append_right (Nat.le_refl _),Nat.sub_self] at h0 ⊢;have h0:VR w S m (.sl 0 es 0 n) _:=h0;show VR w S m' (.sl 1000 es 0 n) _;obtain ⟨r0,A,h1,h2,h3,h4,h5,h6,hv⟩:=h0.sl_inv;rw [hv];exact .sl ((hm' 1000 _ rfl).trans h1) h2 h3 h4 h5 h6
    · rw [List.getElem?_eq_none (by simp;omega)];exact .any _
theorem FnS.nilArg {P:Program} {f:FuncId} {a b ls ls':List AV} {r:AV} (h:FnS P f (a ++ .by_ []::b) ls r ls'):FnS P f (a ++ .lit (.slice none 0 0)::b) ls r ls':=by
  intro w S rows vs h1 h2 h3 h4 h5 h6;refine h w S rows vs h1 h2 (by simpa using h3) (fun j x v hx hv=>?_) h5 h6;rcases Nat.lt_trichotomy j a.length with hj | hj | hj
  · refine h4 j x v ?_ hv;rw [List.getElem?_append_left hj] at hx ⊢;exact hx
  · subst hj;rw [List.getElem?_append_right (Nat.le_refl _),Nat.sub_self] at hx;injection hx with hx;subst hx;have h0:=h4 a.length (.lit (.slice none 0 0)) v (by rw [List.getElem?_append_right (Nat.le_refl _),Nat.sub_self];rfl) hv;rw [h0.lit_inv];exact .by_ rfl (Nat.le_refl _) (by omega) (fun _=>rfl) (.inl rfl)
  · refine h4 j x v ?_ hv;obtain ⟨i,rfl⟩:∃ i,j=a.length+1+i:=⟨j-a.length-1,by omega⟩;rw [List.getElem?_append_right (by omega),show a.length+1+i-a.length=i+1 by omega,List.getElem?_cons_succ] at hx ⊢;exact hx
end Go.TravelAbs
namespace Go.Proofs.YtjjkfpbkmhfckaaGreatDoor.Ch
open Go.RowKit Go.TravelBase Go.TravelAbs
theorem elt_s (x:Int):FnS Tryz.prog 170 [.lit (.int .i64 x)] [] (.lit (.bool (eltB x))) [] :=
  FnS.q (fun w S m vs hs hl ha=>by
    obtain ⟨v,rfl,h⟩:=arr1 hl ha;obtain rfl:=h.lit_inv;exact (element_any x w).mono fun e w' ⟨h1,h2⟩=>⟨h1,0,h2.symm⟩) rfl fun _ _ _=>.lit _
theorem rpub_s (x:Int):FnS Tryz.prog 41 [.lit (.int .i64 x)] [] (.tup [.lit (.int .i64 (pubV x)),.lit (.int .i64 (pubE x))]) [] :=
  FnS.q (fun w S m vs hs hl ha=>by
    obtain ⟨v,rfl,h⟩:=arr1 hl ha;obtain rfl:=h.lit_inv;exact (rpublic_any x w).mono fun e w' ⟨h1,h2⟩=>⟨h1,0,h2.symm⟩) rfl fun _ _ _=>tup2_lit _ _
theorem genc_s (x:Int):FnS Tryz.prog 126 [.lit (.int .i64 x)] [] (.tup [.fr (.by_ (encL x)),.lit (.int .i64 (encE x))]) [] :=
  FnS.fr2 (fun w S m vs hs hl ha=>by
    obtain ⟨v,rfl,h⟩:=arr1 hl ha;obtain rfl:=h.lit_inv;exact encode_any x w)
theorem gdec_s (bs:List UInt8):FnS Tryz.prog 144 [.by_ bs] [] (.tup [.lit (.int .i64 (decV bs)),.lit (.int .i64 (decE bs))]) [] :=
  FnS.q (fun w S m vs hs hl ha=>by
    obtain ⟨v,rfl,h⟩:=arr1 hl ha;obtain ⟨A,c,rfl,hr⟩:=Rd_of_VR h hs;exact (decode_any A _ c bs w hr).mono fun e w' ⟨h1,h2⟩=>⟨h1,0,h2.symm⟩) rfl fun _ _ _=>tup2_lit _ _
theorem same_s (xs ys:List UInt8):FnS Tryz.prog 145 [.by_ xs,.by_ ys] [] (.lit (.bool (decide (xs=ys)))) [] :=
  FnS.q (fun w S m vs hs hl ha=>by
    obtain ⟨v,u,rfl,h1,h2⟩:=arr2 hl ha;obtain ⟨A,c,rfl,hr⟩:=Rd_of_VR h1 hs;obtain ⟨A',c',rfl,hr'⟩:=Rd_of_VR h2 hs;exact (same_any A A' _ c _ c' xs ys w hr hr').mono fun e w' ⟨h1,h2⟩=>⟨h1,0,h2.symm⟩) rfl fun _ _ _=>.lit _
def dayB (d:Int):Bool:=decide (0≤d) && decide (d≤73048)
def daysB (a b:Int):Bool:=decide (0≤a) && decide (a≤b) && decide (b≤73048)
theorem days_s (a b:Int):FnS Tryz.prog 173 [.lit (.int .i64 a),.lit (.int .i64 b)] [] (.lit (.bool (daysB a b))) []:=by
  have hs:=sg0_ok;refine fo Tryz.func173 16 fun X hX=>?_;refine up 2 ?_;refine rE [.lit (.bool (daysB a b))] [] [.tmp 4] ?_;simp only [go_sem,sbT,daysB];all_goals exact agA
  all_goals (cases hh:decide (0≤a) <;> cases hh2:decide (a≤b) <;> simp_all)
def okn (bs:List UInt8) (j:Nat):Bool:=decide ((65≤(bs.getD j 0).toNat∧(bs.getD j 0).toNat≤90)∨(0<j∧48≤(bs.getD j 0).toNat∧(bs.getD j 0).toNat≤57))
def nameB (bs:List UInt8):Bool:=decide (1≤bs.length∧bs.length≤16 ∧ ∀ j,j<bs.length→okn bs j=true)
theorem name_no {bs:List UInt8} {j:Nat} (h:j<bs.length) (h2:¬ ((65≤(bs.getD j 0).toNat∧(bs.getD j 0).toNat≤90)∨(0<j∧48≤(bs.getD j 0).toNat∧(bs.getD j 0).toNat≤57))):nameB bs=false:=by
  unfold nameB;rw [decide_eq_false_iff_not];rintro ⟨_,_,h3⟩;have:=h3 j h;unfold okn at this;rw [decide_eq_true_eq] at this;exact h2 this
theorem okn_succ {bs:List UInt8} {i:Nat} (h:∀ j,j<i→okn bs j=true) (h2:(65≤(bs.getD i 0).toNat∧(bs.getD i 0).toNat≤90)∨(0<i∧48≤(bs.getD i 0).toNat∧(bs.getD i 0).toNat≤57)):∀ j,j<i+1→okn bs j=true:=by
  intro j hj;rcases Nat.lt_or_ge j i with h3 | h3
  · exact h j h3
  · obtain rfl:j=i:=by omega
    unfold okn;rw [decide_eq_true_eq];exact h2
theorem name_all {bs:List UInt8} (h:∀ j,j<bs.length→okn bs j=true):nameB bs=(decide (1≤bs.length) && decide (bs.length≤16)):=by
  unfold nameB;rw [Bool.eq_iff_iff];simp only [decide_eq_true_eq,Bool.and_eq_true];exact ⟨fun h=>⟨h.1,h.2.1⟩,fun h2=>⟨h2.1,h2.2,h⟩⟩
theorem name_s (bs:List UInt8):FnS Tryz.prog 172 [.lit (.string (strB bs))] [] (.lit (.bool (nameB bs))) []:=by
  have hs:=sg0_ok;by_cases hp:bs.length=0
  · obtain rfl:=List.eq_nil_of_length_eq_zero hp;have e:nameB []=false:=by decide
    refine fo Tryz.func172 50 fun X hX=>?_;refine up 2 ?_;refine rK hs fun K hK=>?_;simp only [go_sem,strB_size,strB_list,List.length_nil]
    refine eK ?_;refine WA.cond rfl (fun h=>?_) (fun h=>?_)
    ·
      refine up 1 ?_;refine rE [.lit (.bool (nameB []))] [] [.tmp 2] ?_;simp only [go_sem,sbT,e];all_goals exact agA
    ·
      exfalso;simp at h
  refine fo Tryz.func172 50 fun X hX=>?_;refine up 2 ?_;refine rK hs fun K hK=>?_;simp only [go_sem,strB_size,strB_list]
  refine eK ?_;refine WA.cond rfl (fun h=>?_) (fun h=>?_)
  ·
    have h:bs.length<1∨16<bs.length∨(bs.getD 0 0).toNat<65∨90<(bs.getD 0 0).toNat:=by first | (simp only [Bool.and_eq_true,Bool.or_eq_true,Bool.not_eq_true',decide_eq_true_eq,decide_eq_false_iff_not,beq_iff_eq,bne_iff_ne,ne_eq,Bool.not_eq_eq_eq_not,Bool.not_true,Bool.not_false,beq_eq_false_iff_ne,bne_eq_false_iff_eq,Bool.and_eq_false_imp,Bool.or_eq_false_iff,Bool.cond_false_right,Bool.cond_true_left,Bool.cond_false_left,Bool.cond_true_right,gt_iff_lt,ge_iff_le,true_and] at h;first | exact h | omega) | omega | simpa using h
    have e:nameB bs=false:=by
      by_cases h1:bs.length<1∨16<bs.length
      · unfold nameB;rw [decide_eq_false_iff_not];rintro ⟨h2,h3,_⟩;omega
      · exact name_no (j:=0) (by omega) (by omega)
    refine up 1 ?_;refine rE [.lit (.bool (nameB bs))] [] [.tmp 2] ?_;simp only [go_sem,sbT,e];all_goals exact agA
  ·
    refine up 1 ?_
    have h:¬ (bs.length<1∨16<bs.length∨(bs.getD 0 0).toNat<65∨90<(bs.getD 0 0).toNat):=by first | (simp only [Bool.and_eq_true,Bool.or_eq_true,Bool.not_eq_true',decide_eq_true_eq,decide_eq_false_iff_not,beq_iff_eq,bne_iff_ne,ne_eq,Bool.not_eq_eq_eq_not,Bool.not_true,Bool.not_false,beq_eq_false_iff_ne,bne_eq_false_iff_eq,Bool.and_eq_false_imp,Bool.or_eq_false_iff,Bool.cond_false_right,Bool.cond_true_left,Bool.cond_false_left,Bool.cond_true_right,gt_iff_lt,ge_iff_le,true_and] at h;first | exact h | omega) | omega | simpa using h
    have h0:=h;refine up 1 ?_;refine rK hs fun K hK=>?_;simp only [go_sem,strB_size]
    refine eK ?_;refine up 1 ?_;refine WA.loopW hX (fun k=>k) ((fun (i:Nat)=>⟨[(0,.lit (.string (strB bs))),(23,.lit (.int .i64 (bs.length:Nat))),(24,.lit (.int .i64 (i:Nat)))],[],3000,50⟩:_→St)) (fun i=>bs.length-i) (fun i=>i≤bs.length ∧ ∀ j,j<i→okn bs j=true) (i0:=0) (⟨Nat.zero_le _,fun j hj=>absurd hj (Nat.not_lt_zero j)⟩) (by simp only [go_sem,Int.natCast_add,Int.natCast_zero] <;> (try and_intros) <;> (try omega)) fun i hi=>?_
    obtain ⟨hi,ho⟩:=hi;refine rK hs fun K hK=>?_;simp only [go_sem,strB_size,strB_list]
    refine eK ?_;refine up 1 ?_;refine WA.cond rfl (fun h=>?_) (fun h=>?_)
    ·
      refine up 1 ?_
      have h:(i:Int)<(bs.length:Nat):=by first | (simp only [Bool.and_eq_true,Bool.or_eq_true,Bool.not_eq_true',decide_eq_true_eq,decide_eq_false_iff_not,beq_iff_eq,bne_iff_ne,ne_eq,Bool.not_eq_eq_eq_not,Bool.not_true,Bool.not_false,beq_eq_false_iff_ne,bne_eq_false_iff_eq,Bool.and_eq_false_imp,Bool.or_eq_false_iff,Bool.cond_false_right,Bool.cond_true_left,Bool.cond_false_left,Bool.cond_true_right,gt_iff_lt,ge_iff_le,true_and] at h;first | exact h | omega) | omega | simpa using h
      have hi2:i<bs.length:=by omega
      refine up 2 ?_;refine rK hs fun K hK=>?_;simp only [go_sem,strB_size,strB_list]
      refine eK ?_;refine rK hs fun K hK=>?_;simp only [go_sem,strB_size,strB_list]
      refine eK ?_;refine WA.cond rfl (fun h=>?_) (fun h=>?_)
      ·
        have h:¬ ((65≤(bs.getD i 0).toNat∧(bs.getD i 0).toNat≤90)∨(48≤(bs.getD i 0).toNat∧(bs.getD i 0).toNat≤57)):=by first | (simp only [Bool.and_eq_true,Bool.or_eq_true,Bool.not_eq_true',decide_eq_true_eq,decide_eq_false_iff_not,beq_iff_eq,bne_iff_ne,ne_eq,Bool.not_eq_eq_eq_not,Bool.not_true,Bool.not_false,beq_eq_false_iff_ne,bne_eq_false_iff_eq,Bool.and_eq_false_imp,Bool.or_eq_false_iff,Bool.cond_false_right,Bool.cond_true_left,Bool.cond_false_left,Bool.cond_true_right,gt_iff_lt,ge_iff_le,true_and] at h;first | exact h | omega) | omega | simpa using h
        have e:=name_no hi2 (by omega);refine up 1 ?_;refine rE [.lit (.bool (nameB bs))] [] [.tmp 2] ?_;simp only [go_sem,sbT,e];all_goals exact agA
      ·
        refine up 1 ?_
        have h:((65≤(bs.getD i 0).toNat∧(bs.getD i 0).toNat≤90)∨(48≤(bs.getD i 0).toNat∧(bs.getD i 0).toNat≤57)):=by first | (simp only [Bool.and_eq_true,Bool.or_eq_true,Bool.not_eq_true',decide_eq_true_eq,decide_eq_false_iff_not,beq_iff_eq,bne_iff_ne,ne_eq,Bool.not_eq_eq_eq_not,Bool.not_true,Bool.not_false,beq_eq_false_iff_ne,bne_eq_false_iff_eq,Bool.and_eq_false_imp,Bool.or_eq_false_iff,Bool.cond_false_right,Bool.cond_true_left,Bool.cond_false_left,Bool.cond_true_right,gt_iff_lt,ge_iff_le,true_and] at h;first | exact h | omega) | omega | simpa using h
        have h5:((65≤(bs.getD i 0).toNat∧(bs.getD i 0).toNat≤90)∨(0<i∧48≤(bs.getD i 0).toNat∧(bs.getD i 0).toNat≤57)):=by
          rcases Nat.eq_zero_or_pos i with rfl | hp
          · omega
          · omega
        refine WA.regionE ty_ok hs fun K hK=>?_;simp only [go_sem,true_and]
        (repeat refine sdA ?_);refine hK _ (roundE hX (fun k=>k) (j:=i+1) (⟨by omega,okn_succ ho h5⟩) (by first | omega | (dsimp only;omega) | (simp;omega)) (by simp only [go_sem,Int.natCast_add,true_and] <;> (try and_intros) <;> (try omega)))
    ·
      refine up 1 ?_
      have h:¬ (i:Int)<(bs.length:Nat):=by first | (simp only [Bool.and_eq_true,Bool.or_eq_true,Bool.not_eq_true',decide_eq_true_eq,decide_eq_false_iff_not,beq_iff_eq,bne_iff_ne,ne_eq,Bool.not_eq_eq_eq_not,Bool.not_true,Bool.not_false,beq_eq_false_iff_ne,bne_eq_false_iff_eq,Bool.and_eq_false_imp,Bool.or_eq_false_iff,Bool.cond_false_right,Bool.cond_true_left,Bool.cond_false_left,Bool.cond_true_right,gt_iff_lt,ge_iff_le,true_and] at h;first | exact h | omega) | omega | simpa using h
      obtain rfl:i=bs.length:=by omega
      have e:=name_all ho;have e2:(decide (1≤bs.length) && decide (bs.length≤16))=true:=by
        simp only [Bool.and_eq_true,decide_eq_true_eq];omega
      rw [e2] at e;refine up 1 ?_;refine rE [.lit (.bool (nameB bs))] [] [.tmp 2] ?_;simp only [go_sem,sbT,e];all_goals exact agA
def byt (x:Int):UInt8:=UInt8.ofNat (IntKind.u8.wrap x).toNat
theorem byt_nat (n:Nat):byt (n:Int)=UInt8.ofNat n:=by
  have h:IntKind.u8.wrap (n:Int)=((n % 256:Nat):Int):=by
    rw [IntKind.wrap_u8];omega
  unfold byt;rw [h,Int.toNat_natCast];exact UInt8.toNat.inj (by simp)
theorem byt_mod (n:Nat):byt ((n:Int).tmod 256)=UInt8.ofNat n:=by
  rw [show (n:Int).tmod 256=((n % 256:Nat):Int) from by rw [Int.tmod_eq_emod_of_nonneg (by omega)];omega,byt_nat]
  exact UInt8.toNat.inj (by simp)
def le3 (d:Int):List UInt8:=[byt (d.fdiv 65536),byt (d.fdiv 256),byt d]
theorem le3_be {d:Int} (h:0≤d):le3 d=beS d.toNat 3:=by
  obtain ⟨n,rfl⟩:=Int.eq_ofNat_of_zero_le h;unfold le3;rw [Int.fdiv_eq_ediv_of_nonneg _ (by omega),Int.fdiv_eq_ediv_of_nonneg _ (by omega)];rw [show (n:Int) / 65536=((n / 65536:Nat):Int) from by omega,show (n:Int) / 256=((n / 256:Nat):Int) from by omega,byt_nat,byt_nat,byt_nat,Int.toNat_natCast]
  simp [beS,p256]
def le2 (d:Int):List UInt8:=[byt (d.fdiv 256),byt d]
theorem le2_be {d:Int} (h:0≤d):le2 d=beS d.toNat 2:=by
  obtain ⟨n,rfl⟩:=Int.eq_ofNat_of_zero_le h;unfold le2;rw [Int.fdiv_eq_ediv_of_nonneg _ (by omega)];rw [show (n:Int) / 256=((n / 256:Nat):Int) from by omega,byt_nat,byt_nat,Int.toNat_natCast]
  simp [beS,p256]
theorem day_s (d:Int):FnS Tryz.prog 125 [.lit (.int .i64 d)] [] (.fr (.by_ (le3 d))) []:=by
  have hs:=sg0_ok;refine fo Tryz.func125 12 fun X hX=>?_;refine up 2 ?_;refine rE [.fr (.by_ (le3 d))] [] [.tmp 2] ?_;simp only [go_sem,sbT];all_goals exact ⟨rfl,rfl⟩
structure Pt where
  h:List UInt8
  key:Int
  rt:Int
  fr:Int
  til:Int
def ptA (p:Pt):AV:=.agg [.lit (.string (strB p.h)),.lit (.int .i64 p.key),.lit (.int .i64 p.rt),.lit (.int .i64 p.fr),.lit (.int .i64 p.til)]
def pointE (p:Pt):Int:=if nameB p.h=false then 60 else if eltB p.key=false then 10 else if p.rt<0∨65535<p.rt then 62 else if daysB p.fr p.til=false then 8 else 0
def sgP:Sg:=fun f args ls =>
  match f,args,ls with
  | 172,[.lit (.string s)],[]=>some (.lit (.bool (nameB s.data.toList)),[],True)
  | 170,[.lit (.int .i64 x)],[]=>some (.lit (.bool (eltB x)),[],True)
  | 173,[.lit (.int .i64 x),.lit (.int .i64 y)],[]=>some (.lit (.bool (daysB x y)),[],True)
  | _,_,_=>none
theorem sgP_ok:SgOK Tryz.prog sgP:=by
  intro f args ls r ls' vc h hvc;unfold sgP at h;split at h <;> cases h
  · exact ⟨(fnOK Tryz.func172 (by decide) rfl),name_s _⟩
  · exact ⟨(fnOK Tryz.func170 (by decide) rfl),elt_s _⟩
  · exact ⟨(fnOK Tryz.func173 (by decide) rfl),days_s _ _⟩
theorem point_s (p:Pt):FnS Tryz.prog 123 [ptA p] [] (.lit (.int .i64 (pointE p))) []:=by
  have hs:=sgP_ok;unfold ptA;refine fo Tryz.func123 29 fun X hX=>?_;refine up 3 ?_;refine rK hs fun K hK=>?_;simp only [go_sem,sgP,strB_list]
  refine eK ?_;refine WA.cond rfl (fun h=>?_) (fun h=>?_)
  ·
    have h:nameB p.h=false:=by first | (simp only [Bool.and_eq_true,Bool.or_eq_true,Bool.not_eq_true',decide_eq_true_eq,decide_eq_false_iff_not,beq_iff_eq,bne_iff_ne,ne_eq,Bool.not_eq_eq_eq_not,Bool.not_true,Bool.not_false,beq_eq_false_iff_ne,bne_eq_false_iff_eq,Bool.and_eq_false_imp,Bool.or_eq_false_iff,Bool.cond_false_right,Bool.cond_true_left,Bool.cond_false_left,Bool.cond_true_right,gt_iff_lt,ge_iff_le,true_and] at h;first | exact h | omega) | omega | simpa using h
    refine up 1 ?_;refine rE [.lit (.int .i64 (pointE p))] [] [.tmp 2] ?_;simp only [go_sem,sbT,pointE,h];all_goals exact agA
  ·
    have h:nameB p.h=true:=by first | (simp only [Bool.and_eq_true,Bool.or_eq_true,Bool.not_eq_true',decide_eq_true_eq,decide_eq_false_iff_not,beq_iff_eq,bne_iff_ne,ne_eq,Bool.not_eq_eq_eq_not,Bool.not_true,Bool.not_false,beq_eq_false_iff_ne,bne_eq_false_iff_eq,Bool.and_eq_false_imp,Bool.or_eq_false_iff,Bool.cond_false_right,Bool.cond_true_left,Bool.cond_false_left,Bool.cond_true_right,gt_iff_lt,ge_iff_le,true_and] at h;first | exact h | omega) | omega | simpa using h
    have h1:=h;refine rK hs fun K hK=>?_;simp only [go_sem,sgP]
    refine eK ?_;refine WA.cond rfl (fun h=>?_) (fun h=>?_)
    ·
      have h:eltB p.key=false:=by first | (simp only [Bool.and_eq_true,Bool.or_eq_true,Bool.not_eq_true',decide_eq_true_eq,decide_eq_false_iff_not,beq_iff_eq,bne_iff_ne,ne_eq,Bool.not_eq_eq_eq_not,Bool.not_true,Bool.not_false,beq_eq_false_iff_ne,bne_eq_false_iff_eq,Bool.and_eq_false_imp,Bool.or_eq_false_iff,Bool.cond_false_right,Bool.cond_true_left,Bool.cond_false_left,Bool.cond_true_right,gt_iff_lt,ge_iff_le,true_and] at h;first | exact h | omega) | omega | simpa using h
      refine up 1 ?_;refine rE [.lit (.int .i64 (pointE p))] [] [.tmp 2] ?_;simp only [go_sem,sbT,pointE,h,h1];all_goals exact agA
    ·
      have h:eltB p.key=true:=by first | (simp only [Bool.and_eq_true,Bool.or_eq_true,Bool.not_eq_true',decide_eq_true_eq,decide_eq_false_iff_not,beq_iff_eq,bne_iff_ne,ne_eq,Bool.not_eq_eq_eq_not,Bool.not_true,Bool.not_false,beq_eq_false_iff_ne,bne_eq_false_iff_eq,Bool.and_eq_false_imp,Bool.or_eq_false_iff,Bool.cond_false_right,Bool.cond_true_left,Bool.cond_false_left,Bool.cond_true_right,gt_iff_lt,ge_iff_le,true_and] at h;first | exact h | omega) | omega | simpa using h
      have h2:=h;refine up 1 ?_;refine WA.cond rfl (fun h=>?_) (fun h=>?_)
      ·
        have h:p.rt<0∨65535<p.rt:=by first | (simp only [Bool.and_eq_true,Bool.or_eq_true,Bool.not_eq_true',decide_eq_true_eq,decide_eq_false_iff_not,beq_iff_eq,bne_iff_ne,ne_eq,Bool.not_eq_eq_eq_not,Bool.not_true,Bool.not_false,beq_eq_false_iff_ne,bne_eq_false_iff_eq,Bool.and_eq_false_imp,Bool.or_eq_false_iff,Bool.cond_false_right,Bool.cond_true_left,Bool.cond_false_left,Bool.cond_true_right,gt_iff_lt,ge_iff_le,true_and] at h;first | exact h | omega) | omega | simpa using h
        refine up 1 ?_;refine rE [.lit (.int .i64 (pointE p))] [] [.tmp 2] ?_;simp only [go_sem,sbT,pointE,h,h1,h2];all_goals exact agA
      ·
        have h:¬ (p.rt<0∨65535<p.rt):=by first | (simp only [Bool.and_eq_true,Bool.or_eq_true,Bool.not_eq_true',decide_eq_true_eq,decide_eq_false_iff_not,beq_iff_eq,bne_iff_ne,ne_eq,Bool.not_eq_eq_eq_not,Bool.not_true,Bool.not_false,beq_eq_false_iff_ne,bne_eq_false_iff_eq,Bool.and_eq_false_imp,Bool.or_eq_false_iff,Bool.cond_false_right,Bool.cond_true_left,Bool.cond_false_left,Bool.cond_true_right,gt_iff_lt,ge_iff_le,true_and] at h;first | exact h | omega) | omega | simpa using h
        have h3:=h;refine rK hs fun K hK=>?_;simp only [go_sem,sgP]
        refine eK ?_;refine WA.cond rfl (fun h=>?_) (fun h=>?_)
        ·
          have h:daysB p.fr p.til=false:=by first | (simp only [Bool.and_eq_true,Bool.or_eq_true,Bool.not_eq_true',decide_eq_true_eq,decide_eq_false_iff_not,beq_iff_eq,bne_iff_ne,ne_eq,Bool.not_eq_eq_eq_not,Bool.not_true,Bool.not_false,beq_eq_false_iff_ne,bne_eq_false_iff_eq,Bool.and_eq_false_imp,Bool.or_eq_false_iff,Bool.cond_false_right,Bool.cond_true_left,Bool.cond_false_left,Bool.cond_true_right,gt_iff_lt,ge_iff_le,true_and] at h;first | exact h | omega) | omega | simpa using h
          refine up 1 ?_;refine rE [.lit (.int .i64 (pointE p))] [] [.tmp 2] ?_;simp only [go_sem,sbT,pointE,h,h1,h2,h3];all_goals exact agA
        ·
          have h:daysB p.fr p.til=true:=by first | (simp only [Bool.and_eq_true,Bool.or_eq_true,Bool.not_eq_true',decide_eq_true_eq,decide_eq_false_iff_not,beq_iff_eq,bne_iff_ne,ne_eq,Bool.not_eq_eq_eq_not,Bool.not_true,Bool.not_false,beq_eq_false_iff_ne,bne_eq_false_iff_eq,Bool.and_eq_false_imp,Bool.or_eq_false_iff,Bool.cond_false_right,Bool.cond_true_left,Bool.cond_false_left,Bool.cond_true_right,gt_iff_lt,ge_iff_le,true_and] at h;first | exact h | omega) | omega | simpa using h
          refine up 2 ?_;refine rE [.lit (.int .i64 (pointE p))] [] [.tmp 2] ?_;simp only [go_sem,sbT,pointE,h,h1,h2,h3];all_goals exact agA
end Go.Proofs.YtjjkfpbkmhfckaaGreatDoor.Ch
namespace Go.Proofs.YtjjkfpbkmhfckaaGreatDoor.Mem
open Go.RowKit Go.TravelBase Go.TravelAbs
def sgO:Sg:=fun f args ls =>
  match f,args,ls with
  | 36,[.lit (.int .i64 n),.lit (.int .i64 k)],[]=>some (.tup [.fr (.by_ (octL n k)),.lit (.int .i64 (octE n k))],[],(-9223372036854775808≤n∧n≤9223372036854775807) ∧ -9223372036854775808≤k∧k≤9223372036854775807)
  | _,_,_=>none
theorem sgO_ok:SgOK Tryz.prog sgO:=by
  intro f args ls r ls' vc h hvc;unfold sgO at h;split at h
  · simp only [Option.some.injEq,Prod.mk.injEq] at h;obtain ⟨rfl,rfl,rfl⟩:=h;exact ⟨fnOK Tryz.func36 (by decide) rfl,octets_s _ _ hvc.1 hvc.2⟩
  · cases h
def imgS (n:Int) (rec:List UInt8):List UInt8:=[1]++octL n 6++octL rec.length 2++rec++List.replicate (256-rec.length) 0
theorem image_s (n:Int) (rec:List UInt8) (h0:0≤n) (h1:n<281474976710656) (h2:rec.length≤256):FnS Tryz.prog 78 [.lit (.int .i64 n),.by_ rec] [] (.fr (.by_ (imgS n rec))) []:=by
  have hs:=sgO_ok;have e6:octE n 6=0:=by
    unfold octE;have p6:p256 6=281474976710656:=by decide +kernel
    rw [if_neg (by omega),if_neg];have:(6:Int).toNat=6:=rfl;rw [this,p6];omega
  have l6:(octL n 6).length=6:=by unfold octL;rw [if_pos e6,length_beS];rfl
  have e2:octE rec.length 2=0:=by
    unfold octE;have p2:p256 2=65536:=by decide +kernel
    rw [if_neg (by omega),if_neg];have:(2:Int).toNat=2:=rfl;rw [this,p2];omega
  have l2:(octL rec.length 2).length=2:=by unfold octL;rw [if_pos e2,length_beS];rfl
  have t6:(octL n 6).take 6=octL n 6:=List.take_of_length_le (by omega);have t2:(octL rec.length 2).take 2=octL rec.length 2:=List.take_of_length_le (by omega);have d6:(octL n 6).drop 6=[]:=List.drop_eq_nil_of_le (by omega);have d2:(octL rec.length 2).drop 2=[]:=List.drop_eq_nil_of_le (by omega);have d8:(octL n 6).drop 8=[]:=List.drop_eq_nil_of_le (by omega);have t8:(octL n 6).take 8=octL n 6:=List.take_of_length_le (by omega);have hr0:(List.replicate 265 (0:UInt8)).set 0 1=1::List.replicate 264 0:=rfl;refine fo Tryz.func78 35 fun X hX=>?_;refine rK hs fun K hK=>?_;simp only [go_sem,sgO]
  refine eK ?_;refine rK hs fun K hK=>?_;simp only [go_sem,sgO]
  refine eK ?_;refine rK hs fun K hK=>?_;simp only [go_sem,sgO]
  refine eK ?_;refine rK hs fun K hK=>?_;simp only [go_sem,sgO]
  refine eK ?_;refine rK hs fun K hK=>?_;simp only [go_sem,sgO,hr0,l6,t6,List.drop_replicate]
  refine eK ?_;refine rK hs fun K hK=>?_;simp only [go_sem,sgO,l2]
  refine eK ?_;refine rK hs fun K hK=>?_;simp only [go_sem,sgO,l2,l6,t6,t2,d6,List.drop_replicate,List.take_append,List.drop_append]
  refine eK ?_;refine rK hs fun K hK=>?_;simp only [go_sem,sgO,l2,l6,t6,t2,d6,d2,d8,t8,h2,List.drop_replicate,List.take_append,List.drop_append]
  refine eK ?_;refine rK hs fun K hK=>?_;simp only [go_sem,sgO]
  refine eK ?_;have he:(1::(octL n 6++octL (↑rec.length) 2++rec++List.drop (9+rec.length) (1::(octL n 6++octL (↑rec.length) 2++List.replicate 256 0))))=imgS n rec:=by
    have e1:List.drop (9+rec.length) (1::(octL n 6++octL (↑rec.length) 2++List.replicate 256 0))=List.replicate (256-rec.length) 0:=by
      rw [show 9+rec.length=(8+rec.length)+1 by omega,List.drop_succ_cons,List.drop_append,List.drop_eq_nil_of_le (by rw [List.length_append,l6,l2];omega),List.length_append,l6,l2,List.drop_replicate];simp
    rw [e1];simp [imgS]
  have hl:(imgS n rec).length=265:=by simp [imgS,l6,l2];omega
  refine rE [.fr (.by_ (imgS n rec))] [] [.tmp 4] ?_;simp only [go_sem,he,hl]
theorem sclone_any (A:Option Addr) (n c:Nat) (xs:List UInt8) (w:World) (h:Rd w A n c (bvs xs)) (hr:n≤140737488355328) :
    Calls Tryz.prog 46 #[.slice A n c] w (RetS 5 n (bvs xs) w):=by
  have hm:=h.max;obtain ⟨i0,hi,hz0,hz1,hz2⟩:=info_parts info_u8;cases A with
  | none =>
    obtain ⟨rfl,rfl,h0⟩:=h.none_;rw [h0];have k1:=fun (w:World) (a:Option Addr) (n c:Nat)=>Lib.run_eql_slice_nil (P:=Tryz.prog) w 23 5 a n c 0 0 Tryz.underlying23;go_enter Tryz.func46,Tryz.ntmps46
    go_wp2
    go_ret
    exact RetS.ap (Ap.nil_ _ _ _) (Below.refl _ _)
  | some ad =>
    have k1:=fun (w:World) (a:Option Addr) (n c:Nat)=>Lib.run_eql_slice_nil (P:=Tryz.prog) w 23 5 a n c 0 0 Tryz.underlying23;go_enter Tryz.func46,Tryz.ntmps46
    go_wp2_with (at_builtin;refine wpList_append_ap _ rfl _ _ 23 rfl w.heap.size 5 i0 _ 1 Tryz.underlying23 hi hz0 hz1 hz2 rfl _ 0 0 [] rfl (Ap.empty _ _ _ _) (some ad) n c (bvs xs) rfl (h.alloc _) (one_bvs _) (by omega) (by unfold maxLen;omega) (by simp) ?_;intro A2 c2 w2 hap hgr hb hne)
    go_ret
    simp only [Nat.zero_add,List.nil_append] at hap ⊢;exact RetS.ap hap (((Below.refl _ _).alloc (Nat.le_refl _) _).trans hb)
theorem sclone_s (bs:List UInt8) (hb:bs.length≤140737488355328):FnS Tryz.prog 46 [.by_ bs] [] (.fr (.by_ bs)) [] :=
  FnS.fr1 (fun w S m vs hs hl ha=>by
    obtain ⟨v,rfl,h⟩:=arr1 hl ha;obtain ⟨A,c,rfl,hr⟩:=Rd_of_VR h hs;exact sclone_any A _ c bs w hr hb)
def sg1:Sg:=fun f args ls =>
  match f,args,ls with
  | 101,[.by_ bs],[]=>some (.tup [.lit (.int .i64 (numV bs)),.lit (.int .i64 (numE bs))],[],True)
  | 46,[.by_ bs],[]=>some (.fr (.by_ bs),[],bs.length≤140737488355328)
  | _,_,_=>none
theorem sg1_ok:SgOK Tryz.prog sg1:=by
  intro f args ls r ls' vc h hvc;unfold sg1 at h;split at h
  · simp only [Option.some.injEq,Prod.mk.injEq] at h;obtain ⟨rfl,rfl,rfl⟩:=h;exact ⟨fnOK Tryz.func101 (by decide) rfl,number_s _⟩
  · simp only [Option.some.injEq,Prod.mk.injEq] at h;obtain ⟨rfl,rfl,rfl⟩:=h;exact ⟨fnOK Tryz.func46 (by decide) rfl,sclone_s _ hvc⟩
  · cases h
def rO (b:List UInt8):Bool:=decide (b.length=265) && decide ((b.getD 0 0).toNat=1) && decide (numV ((b.take 9).drop 7)≤256)
def rN (b:List UInt8):Int:=if rO b then numV ((b.take 7).drop 1) else 0
def rR (b:List UInt8):List UInt8:=if rO b then (b.take (9+numV ((b.take 9).drop 7)).toNat).drop 9 else []
def readA (b:List UInt8):AV:=.tup [.agg [.lit (.int .i64 (rN b)),.by_ (rR b)],.lit (.bool (rO b))]
theorem numV_nn (l:List UInt8):0≤numV l:=by unfold numV;split <;> omega
theorem read_s (b:List UInt8):FnS Tryz.prog 141 [.by_ b] [] (readA b) []:=by
  have hs:=sg1_ok;refine fo Tryz.func141 40 fun X hX=>?_;refine rK hs fun K hK=>?_;simp only [go_sem,sg1]
  refine eK ?_;refine up 1 ?_;refine rK hs fun K hK=>?_;simp only [go_sem,sg1]
  refine eK ?_;refine WA.cond rfl (fun h=>?_) (fun h=>?_)
  ·
    refine rK hs fun K hK=>?_;simp only [go_sem,sg1]
    refine eK ?_;have e:rO b=false:=by
      unfold rO;by_cases h5:b.length=265
      · simp only [h5,Int.cast_ofNat_Int,bne_self_eq_false,cond_false,bne_iff_ne] at h;have:¬ (b.getD 0 0).toNat=1:=by omega
        simp only [decide_eq_false this,Bool.and_false,Bool.false_and]
      · simp [h5]
    unfold readA rN rR;rw [e];refine rE [.agg [.lit (.int .i64 0),.by_ []],.lit (.bool false)] [] [.cell 2 192,.tmp 3] ?_;simp only [go_sem,sbT]
  · refine WA.skipT ?_;have h1:b.length=265∧(b.getD 0 0).toNat=1:=by
      by_cases h5:b.length=265
      · simp only [h5,Int.cast_ofNat_Int,bne_self_eq_false,cond_false,bne_eq_false_iff_eq] at h;exact ⟨h5,by omega⟩
      · have:((b.length:Int) != 265)=true:=by rw [bne_iff_ne];omega
        rw [this] at h;cases h
    obtain ⟨h5,h1⟩:=h1;clear h;refine rK hs fun K hK=>?_;simp only [go_sem,sg1,h5]
    refine eK ?_;refine rK hs fun K hK=>?_;simp only [go_sem,sg1,h5]
    refine eK ?_;refine up 1 ?_;refine rK hs fun K hK=>?_;simp only [go_sem,sg1,h5]
    refine eK ?_;refine WA.cond rfl (fun h=>?_) (fun h=>?_)
    ·
      refine rK hs fun K hK=>?_;simp only [go_sem,sg1,h5]
      refine eK ?_;have e:rO b=false:=by
        unfold rO;have:¬ numV ((b.take 9).drop 7)≤256:=by simpa using h
        simp [this]
      unfold readA rN rR;rw [e];refine rE [.agg [.lit (.int .i64 0),.by_ []],.lit (.bool false)] [] [.cell 2 192,.tmp 3] ?_;simp only [go_sem,sbT]
    · refine WA.skipT ?_;have h2:numV ((b.take 9).drop 7)≤256:=by simpa using h
      have h3:=numV_nn ((b.take 9).drop 7);have e:rO b=true:=by simp only [rO,decide_eq_true h5,decide_eq_true h1,decide_eq_true h2,Bool.and_true]
      clear h;have h4:((9+numV ((b.take 9).drop 7)).toNat≤265)=True:=eq_true (by omega);refine rK hs fun K hK=>?_;simp only [go_sem,sg1,h5,h4];refine And.intro (by omega) (hK _ ?_);clear hK K;unfold readA rN rR;rw [e];refine rE [.agg [.lit (.int .i64 (numV ((b.take 7).drop 1))),.by_ ((b.take (9+numV ((b.take 9).drop 7)).toNat).drop 9)],.lit (.bool true)] [] [.cell 2 192,.tmp 3] ?_;simp only [go_sem,h5,h4];have hl:(List.drop 9 (List.take (9+numV (List.drop 7 (List.take 9 b))).toNat b)).length=(9+numV (List.drop 7 (List.take 9 b))).toNat-9:=by
        rw [List.length_drop,List.length_take];omega
      exact ⟨by omega,List.take_of_length_le (by omega)⟩
def sg2:Sg:=fun f args ls =>
  match f,args,ls with
  | 141,[.by_ b],[]=>some (.tup [.agg [.lit (.int .i64 (rN b)),.by_ (rR b)],.lit (.bool (rO b))],[],True)
  | _,_,_=>none
theorem sg2_ok:SgOK Tryz.prog sg2:=by
  intro f args ls r ls' vc h hvc;unfold sg2 at h;split at h
  · simp only [Option.some.injEq,Prod.mk.injEq] at h;obtain ⟨rfl,rfl,rfl⟩:=h;exact ⟨fnOK Tryz.func141 (by decide) rfl,read_s _⟩
  · cases h
def nP (a b:List UInt8):Bool:=rO b && (!rO a || decide (rN b > rN a))
def nI (a b:List UInt8):Int:=if nP a b then 1 else 0
def nN (a b:List UInt8):Int:=if nP a b then rN b else rN a
def nR (a b:List UInt8):List UInt8:=if nP a b then rR b else rR a
def nK (a b:List UInt8):Bool:=if nP a b then true else rO a
theorem newer_s (a b:List UInt8):FnS Tryz.prog 103 [.agg [.by_ a,.by_ b]] [] (.tup [.lit (.int .i64 (nI a b)),.agg [.lit (.int .i64 (nN a b)),.by_ (nR a b)],.lit (.bool (nK a b))]) []:=by
  have hs:=sg2_ok;refine fo Tryz.func103 38 fun X hX=>?_;refine rK hs fun K hK=>?_;simp only [go_sem,sg2]
  refine eK ?_;refine rK hs fun K hK=>?_;simp only [go_sem,sg2]
  refine eK ?_;refine rK hs fun K hK=>?_;simp only [go_sem,sg2]
  refine eK ?_;refine up 1 ?_;refine rK hs fun K hK=>?_;simp only [go_sem,sg2]
  refine eK ?_;refine WA.cond rfl (fun h=>?_) (fun h=>?_)
  ·
    have e:nP a b=true:=by
      unfold nP;cases h1:rO a <;> cases h2:rO b <;> simp_all
    unfold nI nN nR nK;rw [e];refine WA.drawnK mixed_ ty_ok hs (tbl:=[[],[],[0,1],[0,1,2]]) (nb:=[0,2]) (by kernel_rfl) fun K hK=>?_;simp only [go_sem,sg2]
    refine eK ?_;refine rE [.lit (.int .i64 1),.agg [.lit (.int .i64 (rN b)),.by_ (rR b)],.lit (.bool true)] [] [.tmp 2,.cell 3 192,.tmp 4] ?_;simp only [go_sem,sbT]
  · refine WA.skipT ?_;have e:nP a b=false:=by
      unfold nP;cases h1:rO a <;> cases h2:rO b <;> simp_all
    unfold nI nN nR nK;rw [e];refine WA.drawnK mixed_ ty_ok hs (tbl:=[[],[],[],[0,2],[0,1,2,3]]) (nb:=[0,3]) (by kernel_rfl) fun K hK=>?_;simp only [go_sem,sg2]
    refine eK ?_;refine rE [.lit (.int .i64 0),.agg [.lit (.int .i64 (rN a)),.by_ (rR a)],.lit (.bool (rO a))] [] [.tmp 2,.cell 3 192,.tmp 4] ?_;simp only [go_sem,sbT]
def lenS (b:List UInt8):Int:=256*((b.getD 7 0).toNat:Int)+((b.getD 8 0).toNat:Int)
def cO (b:List UInt8):Bool:=bif (bif ((b.length:Int) == 265) then (((b.getD 0 0).toNat:Int) == 1) else false) then decide (lenS b≤256) else false
def u8 (n:Int):UInt8:=UInt8.ofNat (IntKind.u8.wrap n).toNat
def sl1 (n:Int):Nat→List UInt8
  | 0=>List.replicate 264 0
  | i+1=>(sl1 n i).set i (u8 (n.fdiv (2 ^ (40-8*i))))
def sl2 (n:Int) (rec:List UInt8):Nat→List UInt8
  | 0=>((sl1 n 6).set 6 (u8 ((rec.length:Int).fdiv (2 ^ 8)))).set 7 (u8 rec.length)
  | i+1=>(sl2 n rec i).set (8+i) (rec.getD i 0)
def nV (b:List UInt8):Int:=numV ((b.take 7).drop 1)
def fK (a b:List UInt8):Int:=if cO a=true then (if cO b=true∧nV b > nV a then 1 else 0) else if cO b=true then 1 else -1
theorem octL6 (n:Int) (h0:0≤n) (h1:n<281474976710656):octE n 6=0∧(octL n 6).length=6:=by
  have e6:octE n 6=0:=by
    unfold octE;have p6:p256 6=281474976710656:=by decide +kernel
    rw [if_neg (by omega),if_neg];have:(6:Int).toNat=6:=rfl;rw [this,p6];omega
  exact ⟨e6,by unfold octL;rw [if_pos e6,length_beS];rfl⟩
theorem octL2 (n:Nat) (h1:n≤256):octE n 2=0∧(octL n 2).length=2:=by
  have e2:octE n 2=0:=by
    unfold octE;have p2:p256 2=65536:=by decide +kernel
    rw [if_neg (by omega),if_neg];have:(2:Int).toNat=2:=rfl;rw [this,p2];omega
  exact ⟨e2,by unfold octL;rw [if_pos e2,length_beS];rfl⟩
theorem imgS_length (n:Int) (rec:List UInt8) (h0:0≤n) (h1:n<281474976710656) (h2:rec.length≤256):(imgS n rec).length=265:=by
  have:=(octL6 n h0 h1).2;have:=(octL2 rec.length h2).2;simp only [imgS,List.length_append,List.length_cons,List.length_nil,List.length_replicate];omega
def sg6:Sg:=fun f args ls =>
  match f,args,ls with
  | 78,[.lit (.int .i64 n),.by_ bs],[]=>some (.fr (.by_ (imgS n bs)),[],(0≤n∧n<281474976710656)∧bs.length≤256)
  | 103,[.agg [.by_ a,.by_ b]],[]=>some (.tup [.lit (.int .i64 (nI a b)),.agg [.lit (.int .i64 (nN a b)),.by_ (nR a b)],.lit (.bool (nK a b))],[],True)
  | _,_,_=>none
theorem sg6_ok:SgOK Tryz.prog sg6:=by
  intro f args ls r ls' vc h hvc;unfold sg6 at h;split at h <;> cases h
  · exact ⟨fnOK Tryz.func78 (by decide) rfl,image_s _ _ hvc.1.1 hvc.1.2 hvc.2⟩
  · exact ⟨fnOK Tryz.func103 (by decide) rfl,newer_s _ _⟩
def e0 (rec:List UInt8):List UInt8:=if rec.length > 256 then [] else imgS 0 rec
def e1 (rec:List UInt8):List UInt8:=if rec.length > 256 then [] else List.replicate 265 0
def eE (rec:List UInt8):Int:=if rec.length > 256 then 2 else 0
theorem empty_s (rec:List UInt8):FnS Tryz.prog 44 [.by_ rec] [] (.tup [.agg [.by_ (e0 rec),.by_ (e1 rec)],.lit (.int .i64 (eE rec))]) []:=by
  have hs:=sg6_ok;refine fo Tryz.func44 13 fun X hX=>?_;refine rK hs fun K hK=>?_;simp only [go_sem,sg6]
  refine eK ?_;refine up 1 ?_;refine rK hs fun K hK=>?_;simp only [go_sem,sg6]
  refine eK ?_;refine WA.cond rfl (fun h=>?_) (fun h=>?_)
  ·
    refine rK hs fun K hK=>?_;simp only [go_sem,sg6]
    refine eK ?_;have h2:rec.length > 256:=by have:=of_decide_eq_true h;omega
    refine rE [.agg [.by_ (e0 rec),.by_ (e1 rec)],.lit (.int .i64 (eE rec))] [] [.cell 2 49,.tmp 3] ?_;simp only [go_sem,sbT,e0,e1,eE,h2]
  ·
    refine up 1 ?_
    have h2:rec.length≤256:=by have:=of_decide_eq_false h;omega
    have h3:¬ rec.length > 256:=by omega
    have hl:=imgS_length 0 rec (by omega) (by omega) h2;refine WA.drawnK mixed_ ty_ok hs (tbl:=[[],[0],[],[0,1,2],[0,1,2,3],[0,1,2,3,4],[0,1,2,3,4,5]]) (nb:=[1,5]) (by kernel_rfl) fun K hK=>?_;simp only [go_sem,sg6,hl]
    refine eK ?_;refine rE [.agg [.by_ (e0 rec),.by_ (e1 rec)],.lit (.int .i64 (eE rec))] [] [.cell 2 49,.tmp 3] ?_;simp only [go_sem,sbT,e0,e1,eE,h3,hl,List.take_of_length_le]
def r0 (rec:List UInt8):List UInt8:=if rec.length > 256 then [] else 1::sl2 0 rec rec.length
def lR (a b:List UInt8):List UInt8:=if nK a b=true then nR a b else []
def lE (a b:List UInt8):Int:=if nK a b=true then 0 else 16
theorem load_s (a b:List UInt8):FnS Tryz.prog 54 [.agg [.by_ a,.by_ b]] [] (.tup [.by_ (lR a b),.lit (.int .i64 (lE a b))]) []:=by
  have hs:=sg6_ok;refine fo Tryz.func54 17 fun X hX=>?_;refine rK hs fun K hK=>?_;simp only [go_sem,sg6]
  refine eK ?_;refine rK hs fun K hK=>?_;simp only [go_sem,sg6]
  refine eK ?_;refine up 1 ?_;refine rK hs fun K hK=>?_;simp only [go_sem,sg6]
  refine eK ?_;refine WA.cond rfl (fun h=>?_) (fun h=>?_)
  ·
    refine rK hs fun K hK=>?_;simp only [go_sem,sg6]
    refine eK ?_;have h2:¬ nK a b=true:=by cases hk:nK a b <;> simp_all
    refine rE [.by_ (lR a b),.lit (.int .i64 (lE a b))] [] [.tmp 2,.tmp 3] ?_;simp only [go_sem,sbT,lR,lE,h2]
  ·
    refine up 1 ?_
    have h2:nK a b=true:=by cases hk:nK a b <;> simp_all
    refine rK hs fun K hK=>?_;simp only [go_sem,sg6]
    refine eK ?_;refine rE [.by_ (lR a b),.lit (.int .i64 (lE a b))] [] [.tmp 2,.tmp 3] ?_;simp only [go_sem,sbT,lR,lE,h2]
def gE (a b:List UInt8):Int:=if fK a b<0 then 16 else 0
theorem numS_be (n:Nat):∀ k,numS (beS n k)=n % p256 k:=by
  have hfold:∀ (l:List UInt8) (s:Nat),l.foldl (fun n b=>n*256+b.toNat) s=s*p256 l.length+numS l:=by
    intro l;induction l with
    | nil=>intro s;simp [numS,p256]
    | cons x r ih =>
      intro s;have e:numS (x::r)=r.foldl (fun n b=>n*256+b.toNat) (0*256+x.toNat):=rfl;rw [e,List.foldl_cons,ih,ih,List.length_cons,p256_succ,Nat.zero_mul,Nat.zero_add,Nat.add_mul,Nat.mul_assoc,Nat.mul_comm 256,Nat.add_assoc]
  intro k;induction k with
  | zero=>simp [beS,numS,p256,Nat.mod_one]
  | succ k ih =>
    have e:numS (beS n (k+1))=(beS n k).foldl (fun n b=>n*256+b.toNat) (0*256+(UInt8.ofNat (n / p256 k)).toNat):=rfl;rw [e,hfold,length_beS,ih,Nat.zero_mul,Nat.zero_add,UInt8.toNat_ofNat',p256_succ,Nat.mod_mul,Nat.mul_comm,Nat.add_comm]
theorem img_reads (n:Int) (rec:List UInt8) (h0:0≤n) (h1:n<281474976710656) (h2:rec.length≤256):rO (imgS n rec)=true∧rN (imgS n rec)=n∧rR (imgS n rec)=rec∧(imgS n rec).length=265∧1::(imgS n rec).drop 1=imgS n rec:=by
  have l6:=(octL6 n h0 h1).2;have l2:=(octL2 rec.length h2).2;have e6:=(octL6 n h0 h1).1;have e2:=(octL2 rec.length h2).1;have hlen:=imgS_length n rec h0 h1 h2;have d1:((imgS n rec).take 7).drop 1=octL n 6:=by
    unfold imgS;rw [List.append_assoc,List.append_assoc,List.append_assoc,List.singleton_append,List.take_succ_cons,List.drop_succ_cons,List.drop_zero,List.take_append,List.take_of_length_le (by omega),l6];simp
  have d7:((imgS n rec).take 9).drop 7=octL rec.length 2:=by
    unfold imgS;rw [List.append_assoc,List.append_assoc,List.append_assoc,List.singleton_append,List.take_succ_cons,List.drop_succ_cons,List.take_append,List.take_of_length_le (by omega),l6,List.drop_append,List.drop_eq_nil_of_le (by omega),l6,List.take_append,l2];simp [List.take_of_length_le (show (octL (rec.length:Int) 2).length≤2 by omega)]
  have n6:numV (octL n 6)=n:=by
    unfold numV;rw [if_neg (by omega)];unfold octL;rw [if_pos e6];have p6:p256 6=281474976710656:=by decide +kernel
    rw [numS_be,show (6:Int).toNat=6 from rfl,p6,Nat.mod_eq_of_lt (by omega)]
    omega
  have n2:numV (octL rec.length 2)=rec.length:=by
    unfold numV;rw [if_neg (by omega)];unfold octL;rw [if_pos e2];have p2:p256 2=65536:=by decide +kernel
    rw [numS_be,show (2:Int).toNat=2 from rfl,p2,Int.toNat_natCast,Nat.mod_eq_of_lt (by omega)]
  have hO:rO (imgS n rec)=true:=by
    have h3:((imgS n rec).getD 0 0).toNat=1:=rfl;unfold rO;rw [d7,n2,hlen,h3];simp;omega
  refine ⟨hO,?_,?_,hlen,rfl⟩
  · unfold rN;rw [if_pos hO,d1,n6]
  · unfold rR;rw [if_pos hO,d7,n2,show (9+(rec.length:Int)).toNat=9+rec.length by omega];unfold imgS;have hp:([1]++octL n 6++octL rec.length 2).length=9:=by simp [l6,l2]
    generalize [1]++octL n 6++octL rec.length 2=q at hp;rw [List.append_assoc,← hp,List.take_length_add_append,List.drop_left,List.take_left]
theorem load_empty (rec:List UInt8) (h:rec.length≤256):lR (e0 rec) (e1 rec)=rec∧lE (e0 rec) (e1 rec)=0∧eE rec=0∧(e0 rec).length=265∧(e1 rec).length=265:=by
  obtain ⟨h1,h2,h3,h4,_⟩:=img_reads 0 rec (by omega) (by omega) h;have hn:¬ rec.length > 256:=by omega
  have z:rO (List.replicate 265 (0:UInt8))=false:=by
    unfold rO;have h3:((List.replicate 265 (0:UInt8)).getD 0 0).toNat=0:=rfl;rw [h3,show decide ((0:Nat)=1)=false from rfl,Bool.and_false,Bool.false_and]
  have p:nP (imgS 0 rec) (List.replicate 265 0)=false:=by
    unfold nP;rw [z];rfl
  have k:nK (imgS 0 rec) (List.replicate 265 0)=true:=by
    unfold nK;rw [p,h1];rfl
  unfold e0 e1 eE;rw [if_neg hn,if_neg hn,if_neg hn];refine ⟨?_,?_,rfl,h4,List.length_replicate⟩
  · unfold lR;rw [if_pos k];unfold nR;rw [p];exact h3
  · unfold lE;rw [if_pos k]
end Go.Proofs.YtjjkfpbkmhfckaaGreatDoor.Mem
