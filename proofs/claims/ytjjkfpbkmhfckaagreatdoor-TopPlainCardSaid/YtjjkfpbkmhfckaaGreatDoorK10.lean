import Derived.Test.YtjjkfpbkmhfckaaGreatDoorK00
import Derived.Test.YtjjkfpbkmhfckaaGreatDoorK06
import Derived.Test.YtjjkfpbkmhfckaaGreatDoorK09
import Derived.Lib.AppendZerosOnto
import Derived.Lib.SliceRun
import Derived.Lib.Walk
import Derived.LoopN
import Derived.MapKept
set_option linter.unusedVariables false
set_option linter.unusedSimpArgs false
set_option maxHeartbeats 1000000
set_option maxRecDepth 10000
namespace Go.Proofs.YtjjkfpbkmhfckaaGreatDoor
open Go.RowKit Go.TravelBase Go.TravelAbs
theorem u8_ne0 (x:UInt8):(((x.toNat:Nat):Int) != 0)=(x != 0):=by
  rw [Bool.eq_iff_iff];simp only [bne_iff_ne,ne_eq];rw [← UInt8.toNat_inj];simp
theorem and128 (b:UInt8):(bits .and .u8 (b.toNat:Int) 128 != 0)=(b &&& 128 != 0):=by
  have key:∀ x:Fin 256,(bits .and .u8 (x.val:Int) 128 != 0)=(UInt8.ofNat x.val &&& 128 != 0):=by decide +kernel
  have:=key ⟨b.toNat,b.toNat_lt⟩;simpa using this
theorem and1 (b:UInt8):(bits .and .u8 (b.toNat:Int) 1 == 1)=(b &&& 1 == 1):=by
  have key:∀ x:Fin 256,(bits .and .u8 (x.val:Int) 1 == 1)=(UInt8.ofNat x.val &&& 1 == 1):=by decide +kernel
  have:=key ⟨b.toNat,b.toNat_lt⟩;simpa using this
theorem shl1 (b:UInt8):IntKind.u8.wrap ((b.toNat:Int)*2 ^ 1)=((b <<< 1).toNat:Int):=by
  have key:∀ x:Fin 256,IntKind.u8.wrap ((x.val:Int)*2 ^ 1)=((UInt8.ofNat x.val <<< 1).toNat:Int):=by decide +kernel
  have:=key ⟨b.toNat,b.toNat_lt⟩;simpa using this
theorem shr1 (b:UInt8):((b.toNat:Int)).fdiv (2 ^ 1)=((b >>> 1).toNat:Int):=by
  have key:∀ x:Fin 256,((x.val:Int)).fdiv (2 ^ 1)=((UInt8.ofNat x.val >>> 1).toNat:Int):=by decide +kernel
  have:=key ⟨b.toNat,b.toNat_lt⟩;simpa using this
theorem xor27 (b:UInt8):bits .xor .u8 (b.toNat:Int) 27=((b ^^^ 27).toNat:Int):=xor_u8 b 27
theorem dbl_s (b:UInt8):FnS Tryz.prog 210 [.lit (.int .u8 (b.toNat:Int))] [] (.lit (.int .u8 ((dbl b).toNat:Int))) []:=by
  have hs:=sg0_ok;refine fo Tryz.func210 11 fun X hX=>?_;refine up 2 ?_;refine rK hs fun K hK=>?_;simp only [go_sem,and128]
  refine eK ?_;refine WA.cond rfl (fun h=>?_) (fun h=>?_)
  ·
    have e:dbl b=(b <<< 1) ^^^ 27:=if_pos h;refine rK hs fun K hK=>?_;simp only [go_sem,shl1,xor27]
    refine eK ?_;refine rE [.lit (.int .u8 ((dbl b).toNat:Int))] [] [.tmp 2] ?_;simp only [go_sem,sbT,e];all_goals exact agA
  ·
    have e:dbl b=b <<< 1:=if_neg (by rw [h];decide);refine up 1 ?_
    refine rK hs fun K hK=>?_;simp only [go_sem,shl1]
    refine eK ?_;refine rE [.lit (.int .u8 ((dbl b).toNat:Int))] [] [.tmp 2] ?_;simp only [go_sem,sbT,e];all_goals exact agA
def sgDb:Sg:=fun f args ls =>
  match f,args,ls with
  | 210,[.lit (.int .u8 x)],[]=>some (.lit (.int .u8 ((dbl (UInt8.ofNat x.toNat)).toNat:Int)),[],x=((UInt8.ofNat x.toNat).toNat:Int))
  | _,_,_=>none
theorem sgDb_ok:SgOK Tryz.prog sgDb:=by
  intro f args ls r ls' vc h hvc;unfold sgDb at h;split at h <;> cases h
  · refine ⟨(fnOK Tryz.func210 (by decide) rfl),?_⟩;rename_i x;have:=dbl_s (UInt8.ofNat x.toNat);rw [← hvc] at this;exact this
theorem mul_s (a b:UInt8):FnS Tryz.prog 211 [.lit (.int .u8 (a.toNat:Int)),.lit (.int .u8 (b.toNat:Int))] [] (.lit (.int .u8 ((mulB a b).toNat:Int))) []:=by
  have hs:=sgDb_ok;have u0:((UInt8.toNat 0:Nat):Int)=0:=rfl;refine fo Tryz.func211 19 fun X hX=>?_;refine up 4 ?_;refine WA.loopW hX (fun k=>k) ((fun (p:Nat × UInt8 × UInt8 × UInt8)=>⟨[(0,.lit (.int .u8 (p.2.2.1.toNat:Int))),(1,.lit (.int .u8 (p.2.2.2.toNat:Int))),(5,.lit (.int .u8 (p.2.1.toNat:Int)))],[],4000,19⟩:_→St)) (fun p=>p.1) (fun p=>p.1≤8∧p.2.2.2.toNat<2 ^ p.1∧mulF p.1 p.2.1 p.2.2.1 p.2.2.2=mulB a b) (i0:=(8,0,a,b)) (⟨Nat.le_refl _,b.toNat_lt,rfl⟩) (by simp only [go_sem,Int.natCast_add,u0] <;> (try and_intros) <;> (try omega)) fun ⟨n,o,x,y⟩ hi=>?_
  obtain ⟨h1,h2,h3⟩:=hi;simp only at h1 h2 h3
  refine up 1 ?_;refine rK hs fun K hK=>?_;simp only [go_sem,u8_ne0]
  refine eK ?_;refine WA.cond rfl (fun h=>?_) (fun h=>?_)
  ·
    have hy:y ≠ 0:=by simpa using h
    obtain ⟨k,rfl⟩:∃ k,n=k+1:=by
      cases n with
      | zero=>exact absurd (UInt8.toNat_inj.1 (by simpa using h2)) hy
      | succ k=>exact ⟨k,rfl⟩
    have h4:(y >>> 1).toNat<2 ^ k:=by
      rw [UInt8.toNat_shiftRight];have e1:(1:UInt8).toNat % 8=1:=rfl;rw [e1,Nat.shiftRight_eq_div_pow];have:2 ^ (k+1)=2*2 ^ k:=by rw [Nat.pow_succ,Nat.mul_comm]
      omega
    rw [mulF,if_neg hy] at h3;have hu:UInt8.ofNat x.toNat=x:=by simp
    refine up 4 ?_;refine rK hs fun K hK=>?_;simp only [go_sem,and1]
    refine eK ?_;refine WA.cond rfl (fun h=>?_) (fun h=>?_)
    ·
      have h5:y &&& 1=1:=by simpa using h
      rw [if_pos h5] at h3;refine WA.regionE ty_ok hs fun K hK=>?_;simp only [go_sem,xor_u8]
      refine eN ?_
      refine WA.regionE ty_ok hs fun K hK=>?_;simp only [go_sem,sgDb,Int.toNat_natCast,hu]
      refine eN ?_
      refine WA.regionE ty_ok hs fun K hK=>?_;simp only [go_sem,shr1]
      (repeat refine sdA ?_);refine hK _ (roundE hX (fun k=>k) (j:=(k,o ^^^ x,dbl x,y >>> 1)) (⟨by omega,h4,h3⟩) (by first | omega | (dsimp only;omega) | (simp;omega)) (by simp only [go_sem,Int.natCast_add,true_and] <;> (try and_intros) <;> (try omega)))
    ·
      have h5:¬ y &&& 1=1:=by simpa using h
      rw [if_neg h5] at h3;refine up 1 ?_
      refine WA.regionE ty_ok hs fun K hK=>?_;simp only [go_sem,sgDb,Int.toNat_natCast,hu]
      refine eN ?_
      refine WA.regionE ty_ok hs fun K hK=>?_;simp only [go_sem,shr1]
      (repeat refine sdA ?_);refine hK _ (roundE hX (fun k=>k) (j:=(k,o,dbl x,y >>> 1)) (⟨by omega,h4,h3⟩) (by first | omega | (dsimp only;omega) | (simp;omega)) (by simp only [go_sem,Int.natCast_add,true_and] <;> (try and_intros) <;> (try omega)))
  ·
    have hy:y=0:=by simpa using h
    subst hy;rw [mulF_zero] at h3;subst h3;refine up 2 ?_;refine rE [.lit (.int .u8 ((mulB a b).toNat:Int))] [] [.tmp 4] ?_;simp only [go_sem,sbT];all_goals exact agA
end Go.Proofs.YtjjkfpbkmhfckaaGreatDoor
namespace Go.TravelAbs
open Go.RowKit Go.TravelBase Go.Proofs
section
variable {X:Cx} {H:List (Nat × Blk)} {S:CSet} {m:RMap} {w:World}
theorem Lies.shrink {S2:CSet} (hs:∀ b o v,S b o→w.cell? ⟨b,o,none⟩=some v→S2 b o) {A:Option Addr} {k:Nat} {us:Nat→Value} (h:Lies w S A k us):Lies w S2 A k us:=by
  rcases h with h | ⟨b,off,e,h⟩
  · exact .inl h
  · exact .inr ⟨b,off,e,fun i hi=>⟨hs _ _ _ (h i hi).1 (h i hi).2,(h i hi).2⟩⟩
theorem VR.shrink {S2:CSet} (hs:∀ b o v,S b o→w.cell? ⟨b,o,none⟩=some v→S2 b o) {x:AV} {v:Value} (h:VR w S m x v):VR w S2 m x v:=by
  induction h with
  | lit v=>exact .lit v
  | any v=>exact .any v
  | opt _ h0 ih=>exact .opt ih h0
  | agg hl _ ih=>exact .agg hl ih
  | tup hl _ ih=>exact .tup hl ih
  | by_ hn hc hM h0 hA=>exact .by_ hn hc hM h0 (hA.shrink hs)
  | li us hn hc hM h0 hes he hA _ ih=>exact .li us hn hc hM h0 hes he (hA.shrink hs) ih
  | sl h1 h2 h3 h4 h5 h6=>exact .sl h1 h2 h3 h4 h5 h6
  | ptr h1=>exact .ptr h1
  | ep us hA _ ih=>exact .ep us (fun j hj=>⟨hs _ _ _ (hA j hj).1 (hA j hj).2,(hA j hj).2⟩) ih
  | clo hl _ ih=>exact .clo hl ih
  | bm hl _ ih=>exact .bm hl ih
  | asl h1=>exact .asl h1
theorem cells_of_some {b o:Nat} {v:Value} (h:w.cell? ⟨b,o,none⟩=some v):∃ x:Obj,w.heap[b]? = some x∧x.isCells=true:=by
  exact cells_of_cell h
theorem Mem.shr (hM:Mem X H S m w):∃ S2,Mem X H S2 m w ∧ ∀ b o,S2 b o→X.S0 b o ∨ ∃ x:Obj,w.heap[b]? = some x∧x.isCells=true:=by
  let S2:CSet:=fun b o=>S b o∧(X.S0 b o ∨ ∃ x:Obj,w.heap[b]? = some x∧x.isCells=true)
  have hs:∀ b o v,S b o→w.cell? ⟨b,o,none⟩=some v→S2 b o:=fun b o v h q=>⟨h,.inr (cells_of_some q)⟩;refine ⟨S2,⟨hM.lm,hM.frm,fun b o h=>⟨hM.s0 b o h,.inl h⟩,fun b o h=>hM.s1 b o h.1,fun b o h=>hM.slt b o h.1,hM.dom,fun k b hk=>?_,hM.inj,
    ⟨fun g=>(hM.gl.g g).shrink hs,fun b o v q=>⟨hs b o v (hM.gl.k b o v q).1 (hM.gl.k b o v q).2,(hM.gl.k b o v q).2⟩⟩⟩,fun b o h=>h.2⟩
  obtain ⟨r,h1,h2⟩:=hM.blk k b hk;refine ⟨r,h1,fun hm=>?_⟩;have hB:=h2 hm;refine ⟨hB.es,hB.len,hB.max,fun p hp=>⟨(hB.rd p hp).1,fun j y hy=>?_⟩,fun h1 o ho=>?_,fun h1 hc=>?_⟩
  · obtain ⟨u,a,c⟩:=(hB.rd p hp).2 j y hy;exact ⟨u,a,c.shrink hs⟩
  · have hes:0<r.es:=by
      rcases Nat.eq_zero_or_pos r.es with e | e
      · rw [e,Nat.mul_zero] at ho;omega
      · exact e
    have hp:o / r.es<cN b.c:=Nat.div_lt_of_lt_mul (by rw [Nat.mul_comm];exact ho);obtain ⟨q1,q2⟩:=hB.rd _ hp;have hj:o % r.es<(cAt b.c (o / r.es)).cl.length:=by rw [q1];exact Nat.mod_lt _ hes
    obtain ⟨u,q3,_⟩:=q2 _ _ (List.getElem?_eq_getElem hj);have e:o / r.es*r.es+o % r.es=o:=by rw [Nat.mul_comm];exact Nat.div_add_mod _ _
    rw [e] at q3;exact hs _ _ _ (hB.set h1 o ho) q3
  · obtain ⟨a,b',c⟩:=hB.row h1 hc;exact ⟨a,b',fun o ho hso=>c o ho hso.1⟩
theorem Mem.recx (hM:Mem X H S m w) {nl:Nat} {rows:Nat→Row} {ex:Ext} {ed} (hlm:∀ p,p<nl→m p=some (rows p)) (hln:∀ k b,lk H k=some b→b.ln=false) (hlt:∀ g,g<X.w0.heap.size→X.lent g → ∃ p,p<nl∧(rows p).g=g) (hgv:X.ex.gv=true→ex.gv=true)
    (hkp:∀ b o v,ex.kp b o v→S b o∧w.cell? ⟨b,o,none⟩=some v) (hob:∀ g o,ex.ob g o→w.heap[g]? = some o) (hlo:ex.lo≤w.heap.size):Mem ⟨X.w0,X.S0,nl,rows,ex,ed⟩ H S m w:=by
  have hmi:∀ {g},X.mine g→Cx.mine ⟨X.w0,X.S0,nl,rows,ex,ed⟩ g:=fun {g} h=>by
    rcases Nat.lt_or_ge g X.w0.heap.size with hg | hg
    · rcases h with h | ⟨h,h2⟩
      · omega
      · exact .inr ⟨hgv h,hlt g hg h2⟩
    · exact .inl hg
  refine ⟨hlm,⟨hM.frm.os,hM.frm.tape,hM.frm.output,hM.frm.size,fun g hg hl=>hM.frm.block g hg fun h=>hl (hlt g hg h),hob,hlo⟩,hM.s0,fun b o h=>(hM.s1 b o h).imp id hmi,hM.slt,hM.dom,fun k b hk=>?_,hM.inj,⟨hM.gl.g,hkp⟩⟩;obtain ⟨r,h1,h2⟩:=hM.blk k b hk;refine ⟨r,h1,fun hm=>?_⟩;have hB:=h2 hm;refine ⟨hB.es,hB.len,hB.max,hB.rd,hB.set,fun h1 hc=>?_⟩;obtain ⟨q1,q2,q3⟩:=hB.row h1 hc;have e:=hln k b hk;refine ⟨?_,q2,q3⟩;rw [e] at q1 ⊢;exact hmi q1
end
def RQ (X:Cx) (H:List (Nat × Blk)):Exit→Act→World→Prop
  | .normal,_,w=>∃ S m,Mem X H S m w
  | _,_,_=>False
theorem RQ.out {X:Cx} {H:List (Nat × Blk)}:¬ LetsOut (RQ X H):=fun ⟨_,_,h⟩=>h
theorem lk_ln {H:List (Nat × Blk)} (h:H.all (fun x=>!x.2.ln)=true):∀ k b,lk H k=some b→b.ln=false:=fun k b hk=>by
  have:=List.all_eq_true.1 h _ (lk_mem hk);simpa using this
theorem lk_hi {H:List (Nat × Blk)} {c:Nat} (h:H.all (fun x=>decide (x.1<c))=true):∀ k,c≤k→lk H k=none:=fun k hk=>by
  cases hb:lk H k with
  | none=>rfl
  | some b =>
    have:=List.all_eq_true.1 h _ (lk_mem hb);simp only [decide_eq_true_eq] at this;omega
theorem RQ.mk {X:Cx} {H:List (Nat × Blk)} {s:St} {nl:Nat} (hX:X.nl=nl) (ρ:Nat→Nat) (c:Nat) (hC:wkC nl ρ s ⟨[],H,c,s.sz⟩):WN X (RQ X H) s:=fun a w hR=>by
  obtain ⟨S,m,hM,_⟩:=(hR.wk hX ρ hC).mem;exact ⟨S,m,hM⟩
theorem RQ.b {X:Cx} {H:List (Nat × Blk)} {s:St} {id:Nat} (h:WN X (RQ X H) s):WN X (Exit.inBlock id (RQ X H)) s:=h
theorem RQ.outB {X:Cx} {H:List (Nat × Blk)} {id:Nat}:¬ LetsOut (Exit.inBlock id (RQ X H)):=fun ⟨_,_,h⟩=>h
theorem ownC {P:Program} {X:Cx} {c:Code} {Q:Exit→Act→World→Prop} {s:St} (k es off:Nat) (x c':AV) (hb:lk s.H k=some ⟨.li es [x],0,false⟩) (hx:x.cl[off]? = some (.lit (.slice none 0 0))) (hc:cN c'=0) {x':AV} (hx':x'.cl=x.cl.set off (.sl s.ctr (cE c') 0 0)) (h:WA P X c Q ⟨s.tm,(k,⟨.li es [x'],0,false⟩)::(s.ctr,⟨c',0,false⟩)::s.H,s.ctr+8,s.sz⟩):WA P X c Q s:=fun a w hR =>
  h a w (hR.own0c k es off x c' 0 false hb rfl hx hc hx')
def TmB (j:Nat) (x:AV):Prop:=(∃ q i off,x = .ptr q i off∧q<j)∨Tr x
theorem wpIn_deeper {l n:Nat} {P:Program} {c:Code} {Q:Exit→Act→World→Prop} {a:Act} {w:World} (h:c.wpIn (RdF l) 0 P Q a w):c.wpIn (RdF l) n P Q a w :=
  fun b k cs hro hb _=>h b k cs hro hb (room_wide _)
def tmB (j:Nat):List (Nat × AV)→Prop
  | []=>True
  | x::r=>TmB j x.2∧tmB j r
theorem tmB_at {j:Nat}:∀ {l:List (Nat × AV)},tmB j l → ∀ t,TmB j (gt l t)
  | [],_,t=>.inr (Tr.any)
  | x::r,h,t=>by
    unfold gt;simp only [lk];split
    · exact h.1
    · exact tmB_at h.2 t
theorem WA.chunk {X:Cx} (hX:X.nl=0) (hE:X.ex = .nil) {fn:Func} {r:AV} {ls':List AV} {s:St} {id aid g p d sz:Nat} {ao:Oper} {body z:Code} {n k:Nat} {bs:List UInt8} (j:Nat) (ρ:Nat→Nat) (tmb:List (Nat × AV)) (Hb:List (List UInt8)→List (Nat × Blk)) (cb:Nat)
    (hn:0<n) (hl:bs.length=k*n) (hmax:bs.length+n≤9223372036854775807)
    (hg:gt tmb g = .clo 133 [.ep (.by_ bs) 0,.ep (.lit (.int .i64 n)) 0])
    (hsz:s.sz=sz) (hao:ao.op = .assign (.tmp p)∧ao.dst=some d∧ao.guard=none) (hpd:p<sz∧d<sz)
    (hC:wkC 0 ρ s ⟨tmb,Hb [],cb,sz⟩) (htm:tmB j tmb)
    (hbx:∀ q,q<j → ∃ b,lk (Hb []) q=some b∧b.mode≤1∧0<cN b.c)
    (hln:∀ pre k b,lk (Hb pre) k=some b→b.ln=false) (hkl:∀ pre k,cb≤k→lk (Hb pre) k=none)
    (hb:∀ l X',X'.nl=j → ∀ pre x,x.length=n→pre.length<k→(∀ y∈pre,y.length=n)→WR Tryz.prog l X' body (RQ X' (Hb (pre++[x]))) ⟨(d,.by_ x)::(p,.by_ x)::tmb,Hb pre,cb,sz⟩)
    (hz:∀ X':Cx,X'.nl=0→WA Tryz.prog X' z (FQ Tryz.prog X' fn r ls') ⟨tmb,Hb (pieces n bs k),cb,sz⟩) :
    WA Tryz.prog X (.block id (.rangeFunc (.tmp g) #[p] (.region aid #[ao] false) body)) (Exit.then (fun a w=>z.wp Tryz.prog (FQ Tryz.prog X fn r ls') a w) (FQ Tryz.prog X fn r ls')) s:=by
  subst hsz;intro a w hR;have hR1:=hR.wk hX ρ hC;obtain ⟨S,m,hM,ht⟩:=hR1.mem;have hdf:a.defers=[]:=by
    have:=hR.defers;rw [hE] at this;exact this
  let S1:CSet:=fun b o=>S b o ∧ ∃ v,w.cell? ⟨b,o,none⟩=some v
  have hs1:∀ b o v,S b o→w.cell? ⟨b,o,none⟩=some v→S1 b o:=fun b o v h q=>⟨h,v,q⟩;obtain ⟨cs,hge,hcl,hcv⟩:∃ cs:Array Value,a.tmps.getD g undef = .func (.func 133) #[] cs∧cs.size=2 ∧ ∀ (j:Nat) (x:AV) (u:Value),[AV.ep (.by_ bs) 0,.ep (.lit (.int .i64 n)) 0][j]? = some x→cs[j]? = some u→VR w S m x u:=by
    have h1:=ht g;rw [show gt (St.tm ⟨tmb,Hb [],cb,s.sz⟩) g=_ from hg] at h1
    revert h1;generalize a.tmps.getD g undef=v;intro h1;cases h1 with
    | clo h2 h3=>exact ⟨_,rfl,h2,h3⟩
  obtain ⟨u1,u2,rfl⟩:∃ u1 u2,cs = #[u1,u2]:=by
    obtain ⟨l⟩:=cs;match l,hcl with
    | [u1,u2],_=>exact ⟨u1,u2,rfl⟩
  have v1:∀ m,VR w S1 m (.ep (.by_ bs) 0) u1:=fun m'=>Tr.ep (fun y hy=>by simp only [AV.cl,List.mem_singleton] at hy;subst hy;exact Tr.by_ _) _ _ _ _ ((hcv 0 _ u1 rfl rfl).shrink hs1) m';have v2:∀ m,VR w S1 m (.ep (.lit (.int .i64 n)) 0) u2:=fun m'=>Tr.ep (fun y hy=>by simp only [AV.cl,List.mem_singleton] at hy;subst hy;exact Tr.lit _) _ _ _ _ ((hcv 1 _ u2 rfl rfl).shrink hs1) m';have hseq:=chunk_stops 0 w S1 (fun b o h=>hM.slt b o h.1) n k hn bs hl hmax u1 u2 v1 v2;let rows:Nat→Row:=fun q=>(m q).getD ⟨0,0,0⟩
  have hrows:∀ q,q<j→m q=some (rows q)∧X.w0.heap.size≤(rows q).g:=by
    intro q hq;obtain ⟨b,h1,h2,h3⟩:=hbx q hq;obtain ⟨r,h4,h5⟩:=hM.blk q b h1;have e:rows q=r:=by simp only [rows,h4,Option.getD_some]
    have hB:=h5 (by omega);have h6:=(hB.row h2 (by have:=hB.len;omega)).1;rw [hln [] q b h1] at h6;rw [e];exact ⟨h4,h6.resolve_right fun q=>by rw [hE] at q;cases q.1⟩
  let exI:Ext:=⟨fun b o v=>S b o∧w.cell? ⟨b,o,none⟩=some v,fun _ _=>False,fun _ _ h=>h.elim,[],0,false⟩
  let XI:Cx:=⟨X.w0,X.S0,j,rows,exI,.inl rfl⟩
  have hle:X.w0.heap.size≤w.heap.size:=hM.frm.size;have keepVR:∀ {W:World} {S':CSet} {m':RMap},(∀ b o v,S b o∧w.cell? ⟨b,o,none⟩=some v→S' b o∧W.cell? ⟨b,o,none⟩=some v) → ∀ {x:AV} {v:Value},Tr x→VR w S1 m x v→VR W S' m' x v:=by
    intro W S' m' hk x v hx hv;have h1:VR W S' m x v:=hv.mono (fun b o q=>by
      obtain ⟨h3,u,h4⟩:=q;obtain ⟨h5,h6⟩:=hk b o u ⟨h3,h4⟩;exact ⟨h5,h6.trans h4.symm⟩) fun _ _ q=>q
    exact hx _ _ _ _ h1 m'
  have keepTm:∀ {W:World} {S':CSet} {m':RMap} (X':Cx),(∀ b o v,S b o∧w.cell? ⟨b,o,none⟩=some v→S' b o∧W.cell? ⟨b,o,none⟩=some v)→(∀ q,q<j→m' q=some (rows q))→TmR W S' m' tmb a:=by
    intro W S' m' _ hk hm' t;have h1:=ht t;rcases tmB_at htm t with ⟨q,i,off,h2,h3⟩ | h2
    · rw [show gt (St.tm ⟨tmb,Hb [],cb,s.sz⟩) t=_ from h2] at h1
      rw [h2];revert h1;generalize a.tmps.getD t undef=v;intro h1;cases h1 with
      | ptr h4 =>
        have h5:=(hrows q h3).1;rw [h4] at h5;injection h5 with h5;subst h5;exact .ptr (hm' q h3)
    · exact keepVR hk h2 (h1.shrink hs1)
  refine wp_block ((wpIn_wide (n:=3)).1 ?_);refine wpIn_rangeFunc_ownG rfl (by decide) (gf:=133) (lb:=#[u1,u2]) hge trivial (enters_of Tryz.func133 (by kernel_rfl) rfl) hseq (fun h k=>KpS.trans h k) (fun W l o o' _ h hc _=>KpS.putO W l o o' h hc) (Below.refl _ _) (fun _=>rfl)
    (fun pre W=>∃ S' m',Mem XI (Hb (pre.map (·.bs))) S' m' W ∧ ∀ b o,S' b o→w.heap.size≤b → ∃ x:Obj,W.heap[b]? = some x∧x.isCells=true) (fun _ _ _=>False) ?own (fun _ _ _ _ _ h _ _=>h) ?start
    (fun x=>{ tmps:=(a.tmps.setIfInBounds p x.v).setIfInBounds d x.v,defers:=[] }) ?assign ?body ?done (fun _ _ _ _ _ _ h _=>h.elim)
  case own =>
    rintro pre W W' row ⟨S',m',hMI,hc⟩ hgr hrow;have hcell:∀ b o,S' b o→W'.cell? ⟨b,o,none⟩=W.cell? ⟨b,o,none⟩:=fun b o hb=>by
      refine World.cell?_of_block (hgr.block b (hMI.slt b o hb) fun e=>?_);obtain ⟨h1,x,h2,h3⟩:=hrow b e.symm;obtain ⟨y,h4,h5⟩:=hc b o hb h1;rw [h4] at h2;injection h2 with h2;rw [← h2,h5] at h3;cases h3
    have hneq:∀ g (y:Obj),W.heap[g]? = some y→y.isCells=true→some g ≠ row:=fun g y h h' e=>by
      obtain ⟨h1,x,h2,h3⟩:=hrow g e.symm;rw [h] at h2;injection h2 with h2;rw [← h2,h'] at h3;cases h3
    refine ⟨S',m',hMI.world (fun b o hb=>⟨hb,hcell b o hb⟩) ⟨hgr.os.trans hMI.frm.os,hgr.tape.trans hMI.frm.tape,hgr.output.trans hMI.frm.output,Nat.le_trans hMI.frm.size hgr.size,fun g hg hl=>(hgr.block g (Nat.lt_of_lt_of_le hg hMI.frm.size) fun e=>?_).trans (hMI.frm.block g hg hl),fun _ _ h=>h.elim,Nat.zero_le _⟩ hMI.s1 (fun b o hb=>Nat.lt_of_lt_of_le (hMI.slt b o hb) hgr.size) fun i bi ri h1 h2 h3 h4=>⟨?_,fun _ q=>q⟩,fun b o hb h1=>?_⟩
    · have:=(hrow g e.symm).1;have h2:g<X.w0.heap.size:=hg;omega
    · obtain ⟨r',q1,q2⟩:=hMI.blk i bi h1;rw [h2] at q1;injection q1 with q1;subst q1;obtain ⟨_,⟨cur,T,q3,_⟩,_⟩:=(q2 (by omega)).row h3 h4;exact hgr.block _ (Array.getElem?_eq_some_iff.1 q3).1 (hneq _ _ q3 rfl)
    · obtain ⟨y,h2,h3⟩:=hc b o hb h1;exact ⟨y,(hgr.block b (Array.getElem?_eq_some_iff.1 h2).1 (hneq b y h2 h3)).trans h2,h3⟩
  case start =>
    have hMI:Mem XI (Hb []) S m w:=hM.recx (ed:=.inl rfl) (fun q hq=>(hrows q hq).1) (fun k b hk=>hln [] k b hk) (fun g _ h=>by obtain ⟨p,hp,_⟩:=h;omega) (fun q=>by rw [hE] at q;cases q) (fun b o v h=>h) (fun _ _ h=>h.elim) (Nat.zero_le _);obtain ⟨S2,h1,h2⟩:=hMI.shr;refine ⟨S2,m,h1,fun b o hb hB=>?_⟩;rcases h2 b o hb with h3 | h3
    · have:=hM.slt b o (hM.s0 b o h3);omega
    · exact h3
  case assign =>
    intro l x W K hK;obtain ⟨q1,q2,q3⟩:=hao;refine wpIn_region_list ?_;have e0:(#[p].zip #[x.v]).foldl (fun t (p,v)=>t.setIfInBounds p v) a.tmps=a.tmps.setIfInBounds p x.v:=by simp
    rw [e0];simp only [wpListIn,Region.wanted,q3,if_true];refine ⟨fun _ _=>trivial,?_⟩;have e1:((ao.semAt (Fence.wide.inRound l).round ({ tmps:=a.tmps.setIfInBounds p x.v,defers:=[] }:Act).eval).run Tryz.prog W) = .ok (.value x.v) W:=by
      rw [Fence.inRound_round,Oper.semAt_some l _ ao fun c h=>by rw [q1] at h;cases h];have hps:p<a.tmps.size:=by rw [hR.size];exact hpd.1
      simp [execOp,q1,Act.eval,hps]
    rw [e1,Oper.uponIn_value,q2];exact hK
  case body =>
    rintro l pre x W ⟨S',m',hMI,hc⟩ hlen;let exB:Ext:=⟨exI.kp,fun g o=>w.heap.size≤g∧W.heap[g]? = some o∧o.isCells=false,fun _ _ h=>h.2.2,[],W.heap.size,false⟩
    let XB:Cx:=⟨X.w0,X.S0,j,rows,exB,.inl rfl⟩
    have hMB:Mem XB (Hb (pre.map (·.bs))) S' m' W:=hMI.recx (ed:=.inl rfl) hMI.lm (fun k b hk=>hln _ k b hk) (fun g _ h=>h) (fun q=>by cases q) hMI.gl.k (fun g o h=>h.2.1) (Nat.le_refl _);have hx:VR W S' m' (.by_ x.bs) x.v:=keepVR (W:=W) (S':=S') (m':=m') hMI.gl.k (Tr.by_ _) (x.vr m);have hRB:Rel XB ⟨(d,.by_ x.bs)::(p,.by_ x.bs)::tmb,Hb (pre.map (·.bs)),cb,s.sz⟩ { tmps:=(a.tmps.setIfInBounds p x.v).setIfInBounds d x.v,defers:=[] } W:=by
      refine ⟨by simp [hR.size],rfl,fun k hk=>hkl _ k hk,S',m',hMB,fun t=>?_⟩;have hps:p<a.tmps.size:=by rw [hR.size];exact hpd.1
      have hds:d<a.tmps.size:=by rw [hR.size];exact hpd.2
      have htt:=keepTm XB (W:=W) (S':=S') (m':=m') hMI.gl.k hMI.lm t;by_cases e1:t=d
      · subst e1;simpa [gt,lk,hds] using hx
      · by_cases e2:t=p
        · subst e2;have e3:((a.tmps.setIfInBounds t x.v).setIfInBounds d x.v).getD t undef=x.v:=by
            rw [Array.getD_eq_getD_getElem?,Array.getElem?_setIfInBounds_ne (Ne.symm e1)];simp [hps]
          show VR W S' m' (gt ((d,.by_ x.bs)::(t,.by_ x.bs)::tmb) t) (((a.tmps.setIfInBounds t x.v).setIfInBounds d x.v).getD t undef);rw [e3];simpa [gt,lk,e1] using hx
        · simpa [gt,lk,e1,e2,Array.getD_eq_getD_getElem?,Array.getElem?_setIfInBounds_ne (Ne.symm e1),Array.getElem?_setIfInBounds_ne (Ne.symm e2)] using htt
    refine wpIn_deeper (wpIn_mono (hb l XB rfl _ x.bs x.len (by simpa using hlen) (fun y hy=>by obtain ⟨q,_,rfl⟩:=List.mem_map.1 hy;exact q.len) _ W hRB) ?_);intro e a' W' hq;cases e with
    | normal =>
      obtain ⟨S2,m2,h1⟩:=hq;refine ⟨⟨h1.frm.lo,fun k o hB hk ho=>h1.frm.mark k o ⟨hB,hk,ho⟩⟩,fun b o v hs hv=>?_,?_⟩
      · obtain ⟨hs,v0,hv0⟩:=hs;have h2:=(hMI.gl.k b o v0 ⟨hs,hv0⟩).2;rw [hv] at h2;injection h2 with h2;subst h2;exact (h1.gl.k b o v ⟨hs,hv0⟩).2
      · have hMI':Mem XI (Hb ((pre++[x]).map (·.bs))) S2 m2 W':=by
          rw [List.map_append];exact h1.recx (ed:=.inl rfl) h1.lm (fun k b hk=>hln _ k b hk) (fun g _ h=>h) (fun q=>by cases q) h1.gl.k (fun _ _ h=>h.elim) (Nat.zero_le _)
        obtain ⟨S3,h3,h4⟩:=hMI'.shr;refine ⟨S3,m2,h3,fun b o hb hB=>?_⟩;rcases h4 b o hb with h5 | h5
        · have:=hM.slt b o (hM.s0 b o h5);omega
        · exact h5
    | _=>exact hq.elim
  case done =>
    rintro D xs W hD hxs ⟨S',m',hMI,_⟩ hk;let ex3:Ext:=⟨fun _ _ _=>False,fun g o=>g=D∧o = .deferred (some []),fun g o h=>by rw [h.2];rfl,[{ target:=.collected D,args:=#[] }],0,X.ex.gv⟩
    let X3:Cx:=⟨X.w0,X.S0,X.nl,X.rows,ex3,.inr ⟨D,rfl,⟨rfl,rfl⟩,Nat.le_trans hle hD⟩⟩
    have hM3:Mem X3 (Hb (xs.map (·.bs))) S' m' W:=hMI.recx (ex:=ex3) (ed:=.inr ⟨D,rfl,⟨rfl,rfl⟩,Nat.le_trans hle hD⟩) (fun q hq=>by omega) (fun k b hk=>hln _ k b hk) (fun g hg h=>by
      obtain ⟨q,hq,rfl⟩:=h;have h1:=(hrows q hq).2;have h2:(rows q).g<X.w0.heap.size:=hg;omega) (fun q=>by cases q) (fun _ _ _ h=>h.elim) (fun g o h=>by rw [h.1,h.2];exact hk) (Nat.zero_le _)
    rw [show xs.map (·.bs)=pieces n bs k from hxs] at hM3
    have hR3:Rel X3 ⟨tmb,Hb (pieces n bs k),cb,s.sz⟩ { a with defers:={ target:=.collected D,args:=#[] } :: a.defers } W :=
      ⟨hR.size,by rw [hdf],fun k hk=>hkl _ k hk,S',m',hM3,fun t=>keepTm X3 (W:=W) (S':=S') (m':=m') hMI.gl.k hMI.lm t⟩
    exact hz X3 hX _ W hR3
end Go.TravelAbs
namespace Go.TravelAbs
open Go.RowKit Go.TravelBase
def Wk (y y':AV):Prop:=∀ (w:World) (S:CSet) (m:RMap) (v:Value),VR w S m y v→VR w S m y' v
theorem Wk.rfl_ (y:AV):Wk y y:=fun _ _ _ _ h=>h
theorem Wk.by_:Wk (.lit (.slice none 0 0)) (.by_ []):=fun w S m v h=>sbT_VR (.lit (.slice none 0 0)) (.by_ []) v (by unfold sbT;exact ⟨rfl,rfl⟩) h
theorem Wk.li (es:Nat) (he:0<es):Wk (.lit (.slice none 0 0)) (.li es []):=fun w S m v h=>sbT_VR (.lit (.slice none 0 0)) (.li es []) v (by unfold sbT;exact ⟨rfl,rfl,he⟩) h
def WkC:List AV→List AV→Prop
  | [],ys=>ys=[]
  | x::r,ys =>
    match ys with
    | []=>False
    | y::s=>Wk x y∧WkC r s
def WkL:List AV→List AV→Prop
  | [],ys=>ys=[]
  | x::r,ys =>
    match ys with
    | []=>False
    | y::s=>WkC x.cl y.cl∧WkL r s
theorem WkC.rfl_:∀ (l:List AV),WkC l l
  | []=>rfl
  | x::r=>⟨Wk.rfl_ x,WkC.rfl_ r⟩
theorem WkL.rfl_:∀ (l:List AV),WkL l l
  | []=>rfl
  | x::r=>⟨WkC.rfl_ _,WkL.rfl_ r⟩
theorem WkL.app:∀ {a a' b b':List AV},WkL a a'→WkL b b'→WkL (a++b) (a'++b')
  | [],a',b,b',h,h2=>by
    have h:a'=[]:=h;subst h;exact h2
  | x::r,[],b,b',h,h2=>h.elim
  | x::r,y::s,b,b',h,h2=>⟨h.1,WkL.app h.2 h2⟩
theorem WkC.at_:∀ {a b:List AV},WkC a b→a.length=b.length ∧ ∀ (j:Nat) (x y:AV),a[j]? = some x→b[j]? = some y→Wk x y
  | [],b,h=>by
    have h:b=[]:=h;subst h;exact ⟨rfl,fun j x y hx=>absurd hx (by simp)⟩
  | x::r,[],h=>h.elim
  | x::r,y::s,h=>by
    obtain ⟨h1,h2⟩:=WkC.at_ h.2;refine ⟨by simp [h1],fun j x' y' hx hy=>?_⟩;match j,hx,hy with
    | 0,hx,hy =>
      simp only [List.getElem?_cons_zero,Option.some.injEq] at hx hy;subst hx hy;exact h.1
    | j+1,hx,hy=>exact h2 j x' y' (by simpa using hx) (by simpa using hy)
theorem WkL.at_:∀ {a b:List AV},WkL a b→a.length=b.length ∧ ∀ (j:Nat) (x y:AV),a[j]? = some x→b[j]? = some y→WkC x.cl y.cl
  | [],b,h=>by
    have h:b=[]:=h;subst h;exact ⟨rfl,fun j x y hx=>absurd hx (by simp)⟩
  | x::r,[],h=>h.elim
  | x::r,y::s,h=>by
    obtain ⟨h1,h2⟩:=WkL.at_ h.2;refine ⟨by simp [h1],fun j x' y' hx hy=>?_⟩;match j,hx,hy with
    | 0,hx,hy =>
      simp only [List.getElem?_cons_zero,Option.some.injEq] at hx hy;subst hx hy;exact h.1
    | j+1,hx,hy=>exact h2 j x' y' (by simpa using hx) (by simpa using hy)
section
variable {P:Program} {X:Cx} {w:World} {Q:Exit→Act→World→Prop}
theorem Rel.sb {s:St} (k:Nat) {es:Nat} {xs xs':List AV} {md:Nat} {ln:Bool} (hb:lk s.H k=some ⟨.li es xs,md,ln⟩) (hw:WkL xs xs') {a:Act} (hR:Rel X s a w) :
    Rel X ⟨s.tm,(k,⟨.li es xs',md,ln⟩)::s.H,s.ctr,s.sz⟩ a w:=by
  obtain ⟨S,m,hM,ht⟩:=hR.mem;obtain ⟨hlen,hat⟩:=hw.at_;obtain ⟨r,hr,hB⟩:=hM.blk k _ hb;refine ⟨hR.size,hR.defers,fun k' hk'=>?_,S,m,?_,ht⟩
  · have h0:=hR.kl k' hk';simp only [lk];rw [if_neg (by intro e;rw [e,hb] at h0;cases h0)];exact h0
  · refine ⟨hM.lm,hM.frm,hM.s0,hM.s1,hM.slt,fun k' hk'=>?_,fun k' b' hk'=>?_,fun k1 k2 b1 b2 r1 r2 h1 h2 h3 h4 h5 h6 h7 h8 h9=>?_,hM.gl⟩
    · simp only [lk] at hk';split at hk'
      · cases hk'
      · exact hM.dom k' hk'
    · simp only [lk] at hk';split at hk'
      · rename_i e1;subst e1;injection hk' with hk';subst hk';refine ⟨r,hr,fun hm=>?_⟩;have hB:=hB hm;refine ⟨hB.es,?_,hB.max,?_,?_,?_⟩
        · have:xs.length≤r.cap:=hB.len;show xs'.length≤r.cap;omega
        · intro i hi;have hi':i<xs'.length:=hi;have hi2:i<xs.length:=by omega
          obtain ⟨p1,p2⟩:=hB.rd i hi2;have e1:cAt (.li es xs) i=xs[i]:=by simp [cAt,List.getD,List.getElem?_eq_getElem hi2]
          have e2:cAt (.li es xs') i=xs'[i]:=by simp [cAt,List.getD,List.getElem?_eq_getElem hi']
          simp only at p1 p2 ⊢
          rw [e1] at p1 p2;rw [e2];obtain ⟨q1,q2⟩:=(hat i _ _ (List.getElem?_eq_getElem hi2) (List.getElem?_eq_getElem hi')).at_;refine ⟨by rw [← q1];exact p1,fun j y hy=>?_⟩;have hj:j<xs[i].cl.length:=by rw [q1];exact (List.getElem?_eq_some_iff.1 hy).1
          obtain ⟨u,hu,hv⟩:=p2 j _ (List.getElem?_eq_getElem hj);exact ⟨u,hu,q2 j _ y (List.getElem?_eq_getElem hj) hy _ _ _ _ hv⟩
        · intro h1 o ho;refine hB.set h1 o ?_;show o<xs.length*r.es;rw [hlen];exact ho
        · intro h1 h2;obtain ⟨z1,z2,z3⟩:=hB.row h1 h2;refine ⟨z1,z2,fun o ho=>z3 o ?_⟩;show md=0∨xs.length*r.es≤o;rw [hlen];exact ho
      · exact hM.blk k' b' hk'
    · have g:∀ k1 b1,lk ((k,(⟨.li es xs',md,ln⟩:Blk))::s.H) k1=some b1 → ∃ b1',lk s.H k1=some b1'∧b1'.mode=b1.mode:=by
        intro k1 b1 h;rw [lk] at h;split at h
        · rename_i e1;have e1:k1=k:=e1;subst e1;injection h with h;subst h;exact ⟨_,hb,rfl⟩
        · exact ⟨b1,h,rfl⟩
      obtain ⟨b1',g1,g2⟩:=g _ _ h1;obtain ⟨b2',g3,g4⟩:=g _ _ h2;exact hM.inj k1 k2 b1' b2' r1 r2 g1 g3 h3 h4 (by omega) (by omega) h7 h8 h9
theorem WA.sb {c:Code} {s:St} (k:Nat) {es:Nat} {xs xs':List AV} {md:Nat} {ln:Bool} (hb:lk s.H k=some ⟨.li es xs,md,ln⟩) (hw:WkL xs xs') (h:WA P X c Q ⟨s.tm,(k,⟨.li es xs',md,ln⟩)::s.H,s.ctr,s.sz⟩):WA P X c Q s :=
  fun a w hR=>h a w (hR.sb k hb hw)
theorem WN.norm {s:St} (k:Nat) (h:∀ K:St→Prop,(∀ s',WN X Q s'→K s')→NmR s k K):WN X Q s:=fun a w hR=>by
  obtain ⟨s',h1,h2⟩:=Rel.norm (h (fun s'=>WN X Q s') (fun _ h=>h)) hR;exact h1 a w h2
theorem WN.normT {s:St} (t:Nat) (h:∀ K:St→Prop,(∀ s',WN X Q s'→K s')→NtR s t K):WN X Q s:=fun a w hR=>by
  obtain ⟨s',h1,h2⟩:=Rel.normT (h (fun s'=>WN X Q s') (fun _ h=>h)) hR;exact h1 a w h2
theorem WN.sb {s:St} (k:Nat) {es:Nat} {xs xs':List AV} {md:Nat} {ln:Bool} (hb:lk s.H k=some ⟨.li es xs,md,ln⟩) (hw:WkL xs xs') (h:WN X Q ⟨s.tm,(k,⟨.li es xs',md,ln⟩)::s.H,s.ctr,s.sz⟩):WN X Q s :=
  fun a w hR=>h a w (hR.sb k hb hw)
end
end Go.TravelAbs
namespace Go.Proofs.YtjjkfpbkmhfckaaGreatDoor
open Go.RowKit Go.TravelBase Go.TravelAbs
theorem grow_any (n:Nat) (w:World) (hn:n≤140737488355328):Calls Tryz.prog 127 #[.slice none 0 0,.int .i64 n] w (RetS 5 0 (bvs []) w):=by
  obtain ⟨i0,hi,hz0,hz1,hz2⟩:=info_parts info_u8;have h1:¬ ((n:Int)<0):=by omega
  have h2:wrap64 ((0:Int)-0)=0:=by unfold wrap64;omega
  have h3:wrap64 ((n:Int)-0)=n:=by unfold wrap64;omega
  rcases Nat.eq_zero_or_pos n with rfl | hpos
  · go_enter Tryz.func127,Tryz.ntmps127
    go_wp2
    go_ret
    exact RetS.ap (Ap.nil_ _ _ _) (Below.refl _ _)
  · have h4:(n:Int) > 0:=by omega
    have hold:(Builtin.firstCells i0.size 0 (.slice none 0 0)).run Tryz.prog w.drew = .ok (List.toArray []) w.drew:=run_firstCells_none w.drew i0.size 0 0 0;have hrz:∀ ty,(Builtin.append_ #[23,3] ty #[.slice none 0 0,.int .i64 n]).run Tryz.prog w =
        .ok (.slice (some ⟨w.heap.size,0,none⟩) n (grownCap w n 0 5)) (w.drew.alloc (.cells ((List.toArray [])++Builtin.zeroCells (Value.int .u8 0).cells n++Builtin.zeroCells (Value.int .u8 0).cells (grownCap w n 0 5-n)) 5)):=fun ty=>by
      have h:=Lib.run_append_grow_zeros w 23 3 ty 5 i0 (.int .u8 0) .i64 .i64 Tryz.underlying23 Tryz.underlying3 hi hz0 none 0 0 [] hold n hpos (by omega) (by omega) (by omega) (by rw [hz2];omega)
        (by rw [Nat.zero_add];exact growslice_fits (by omega) (by rw [hz2];omega))
      rw [Nat.zero_add] at h;exact h
    have hGn:n≤grownCap w n 0 5:=grownCap_ge w _ _ _;have hG63:=grownCap_le_maxLen w n 0 5 (by unfold maxLen;omega);generalize grownCap w n 0 5=G at hrz hGn hG63;go_enter Tryz.func127,Tryz.ntmps127
    go_wp2_with (at_builtin;refine Lib.wpList_append_run _ rfl _ _ _ _ rfl _ _ rfl rfl _ _ (hrz _) ?_)
    all_goals go_ret
    refine RetS.ap (.inl ⟨rfl,.inr ⟨w.heap.size,G,_,rfl,Nat.le_refl _,heap_alloc_new _ _,Nat.zero_le _,hG63,?_,?_⟩⟩) ((Below.drew (Below.refl _ _)).alloc (Nat.le_refl _) _)
    · simp [Builtin.zeroCells,Value.cells];omega
    · rfl
theorem grow_s (n:Int) (h0:0≤n) (hn:n≤140737488355328):FnS Tryz.prog 127 [.lit (.slice none 0 0),.lit (.int .i64 n)] [] (.fr (.by_ [])) []:=by
  obtain ⟨k,rfl⟩:=Int.eq_ofNat_of_zero_le h0;exact FnS.fr1 (fun w S m vs hs hl ha=>by
    obtain ⟨v,u,rfl,h1,h2⟩:=arr2 hl ha;obtain rfl:=h1.lit_inv;obtain rfl:=h2.lit_inv;exact grow_any k w (by omega))
def sgG:Sg:=fun f args ls =>
  match f,args,ls with
  | 127,[.lit (.slice none 0 0),.lit (.int .i64 n)],[]=>some (.fr (.by_ []),[],0≤n∧n≤140737488355328)
  | _,_,_=>none
theorem sgG_ok:SgOK Tryz.prog sgG:=by
  intro f args ls r ls' vc h hvc;unfold sgG at h;split at h <;> cases h
  exact ⟨(fnOK Tryz.func127 (by decide) rfl),grow_s _ hvc.1 hvc.2⟩
def sumL (l:List (List UInt8)):Nat:=(l.map List.length).sum
def flatL (l:List (List UInt8)):List UInt8:=l.flatten
theorem flatL_len (l:List (List UInt8)):(flatL l).length=sumL l:=by simp [flatL,sumL]
theorem bys_at {l:List (List UInt8)} {i:Nat} (h:i<l.length):(l.map AV.by_).getD i .any = .by_ l[i]:=by
  simp [List.getD,List.getElem?_eq_getElem h]
theorem Tr_bys (l:List (List UInt8)):Tr (.li 1 (l.map AV.by_))=True:=eq_true (Tr.li fun x hx y hy=>by
  obtain ⟨f,_,rfl⟩:=List.mem_map.1 hx;simp only [AV.cl,List.mem_cons,List.not_mem_nil,or_false] at hy;subst hy;exact Tr.by_ _)
theorem take_succ_ {α:Type} {l:List α} {i:Nat} (h:i<l.length):l.take (i+1)=l.take i++[l[i]]:=by
  rw [List.take_add_one,List.getElem?_eq_getElem h];rfl
theorem sumL_app (a b:List (List UInt8)):sumL (a++b)=sumL a+sumL b:=by
  unfold sumL;rw [List.map_append,List.sum_append]
theorem sumL_one (x:List UInt8):sumL [x]=x.length:=Nat.add_zero _
theorem flatL_app (a b:List (List UInt8)):flatL (a++b)=flatL a++flatL b:=by
  unfold flatL;rw [List.flatten_append]
theorem flatL_one (x:List UInt8):flatL [x]=x:=List.append_nil x
theorem sumL_succ {l:List (List UInt8)} {i:Nat} (h:i<l.length):sumL (l.take (i+1))=sumL (l.take i)+l[i].length:=by
  rw [take_succ_ h,sumL_app,sumL_one]
theorem flatL_succ {l:List (List UInt8)} {i:Nat} (h:i<l.length):flatL (l.take (i+1))=flatL (l.take i)++l[i]:=by
  rw [take_succ_ h,flatL_app,flatL_one]
theorem sumL_le (l:List (List UInt8)) (i:Nat):sumL (l.take i)≤sumL l:=by
  have:sumL l=sumL (l.take i)+sumL (l.drop i):=by rw [← sumL_app,List.take_append_drop]
  omega
theorem sumL_nil:sumL []=0:=rfl
theorem flatL_nil:flatL []=[]:=rfl
theorem concat_s (l:List (List UInt8)) (hl:sumL l≤140737488355328) (hn:l.length≤9223372036854775807):FnS Tryz.prog 77 [.li 1 (l.map AV.by_)] [] (.fr (.by_ (flatL l))) []:=by
  have hs:=sgG_ok;have hT:=Tr_bys l;refine fo Tryz.func77 36 fun X hX=>?_;refine up 5 ?_;refine WA.loopW hX (fun k=>k) ((fun (i:Nat)=>⟨[(0,.li 1 (l.map AV.by_)),(3,.lit (.int .i64 (sumL (l.take i):Nat))),(9,.li 1 (l.map AV.by_)),(10,.lit (.int .i64 (l.length:Nat))),(11,.lit (.int .i64 (i:Nat)))],[],3000,36⟩:_→St)) (fun i=>l.length-i) (fun i=>i≤l.length) (i0:=0) (Nat.zero_le _) (by simp only [go_sem,Int.natCast_add,hT,List.take_zero,sumL_nil,Int.natCast_zero] <;> (try and_intros) <;> (try omega)) fun i hi=>?_
  refine up 2 ?_;refine WA.cond rfl (fun h=>?_) (fun h=>?_)
  ·
    refine up 1 ?_
    have h:(i:Int)<(l.length:Nat):=by first | (simp [true_and] at h;omega) | (simp [true_and] at h;exact h) | omega | simpa using h
    have hi2:i<l.length:=by omega
    have g:=bys_at hi2;have u1:=sumL_succ hi2;have u2:=sumL_le l (i+1);refine up 2 ?_;refine rK hs fun K hK=>?_;simp only [go_sem,g]
    refine eK ?_;refine up 2 ?_;refine WA.cond rfl (fun h=>?_) (fun h=>?_)
    ·
      exfalso;have h:((sumL (l.take i):Nat):Int)+(l[i].length:Nat)<0:=by first | (simp [true_and] at h;omega) | (simp [true_and] at h;exact h) | omega | simpa using h
      omega
    ·
      refine up 1 ?_
      refine WA.regionE ty_ok hs fun K hK=>?_;simp only [go_sem,true_and]
      (repeat refine sdA ?_);refine hK _ (roundE hX (fun k=>k) (j:=i+1) (by omega) (by first | omega | (dsimp only;omega) | (simp;omega)) (by simp only [go_sem,Int.natCast_add,u1,hT] <;> (try and_intros) <;> (try omega)))
  ·
    refine up 1 ?_
    have h:¬ (i:Int)<(l.length:Nat):=by first | (simp [true_and] at h;omega) | (simp [true_and] at h;exact h) | omega | simpa using h
    obtain rfl:i=l.length:=by omega
    have e0:l.take l.length=l:=List.take_length;refine rK hs fun K hK=>?_;simp only [go_sem,sgG,e0]
    refine eK ?_;refine up 3 ?_;refine WA.loopW hX (fun k=>if k=3000 then 3016 else k) ((fun (i:Nat)=>⟨[(6,.sl 3000 1 0 (flatL (l.take i)).length),(25,.li 1 (l.map AV.by_)),(26,.lit (.int .i64 (l.length:Nat))),(27,.lit (.int .i64 (i:Nat)))],[(3000,⟨.by_ (flatL (l.take i)),0,false⟩)],4000,36⟩:_→St)) (fun i=>l.length-i) (fun i=>i≤l.length) (i0:=0) (Nat.zero_le _) (by simp only [go_sem,Int.natCast_add,hT,List.take_zero,flatL_nil] <;> (try and_intros) <;> (try omega)) fun i hi=>?_
    refine up 2 ?_;refine WA.cond rfl (fun h=>?_) (fun h=>?_)
    ·
      refine up 1 ?_
      have h:(i:Int)<(l.length:Nat):=by first | (simp [true_and] at h;omega) | (simp [true_and] at h;exact h) | omega | simpa using h
      have hi2:i<l.length:=by omega
      have g:=bys_at hi2;have u1:=flatL_succ hi2;have u2:=sumL_le l (i+1);have u3:=sumL_succ hi2;have u4:=flatL_len (l.take i);refine up 2 ?_;refine rK hs fun K hK=>?_;simp only [go_sem,g]
      refine eK ?_;refine up 1 ?_
      refine WA.regionE ty_ok hs fun K hK=>?_;simp only [go_sem,true_and]
      (repeat refine sdA ?_);refine hK _ (roundE hX (fun k=>if k=3000 then 4048 else k) (j:=i+1) (by omega) (by first | omega | (dsimp only;omega) | (simp;omega)) (by simp only [go_sem,Int.natCast_add,u1,hT] <;> (try and_intros) <;> (try omega)))
    ·
      refine up 1 ?_
      have h:¬ (i:Int)<(l.length:Nat):=by first | (simp [true_and] at h;omega) | (simp [true_and] at h;exact h) | omega | simpa using h
      obtain rfl:i=l.length:=by omega
      rw [e0];refine up 1 ?_;refine rE [.fr (.by_ (flatL l))] [] [.tmp 2] ?_;simp only [go_sem,sbT];all_goals exact agA
end Go.Proofs.YtjjkfpbkmhfckaaGreatDoor
namespace Go.TravelAbs
open Go.RowKit Go.TravelBase
section
variable {P:Program} {ty:Ty} {X:Cx} {Q:Exit→Act→World→Prop}
theorem WA.unroll {c:Code} {s:St} (n:Nat) (h:WA P X c (Exit.then (Code.rounds P c Q n) Q) s):WA P X (.loop c) Q s:=fun a w hR =>
  wp_loop_rounds (n+1) (h a w hR)
theorem WN.r {c:Code} {s:St} {n:Nat} (h:WA P X c (Exit.then (Code.rounds P c Q n) Q) s):WN X (Exit.then (Code.rounds P c Q (n+1)) Q) s:=h
end
def Cx.withOb (X:Cx) (b:Nat) (o:Obj) (ho:o.isCells=false):Cx :=
  ⟨X.w0,X.S0,X.nl,X.rows,⟨X.ex.kp,fun g q=>X.ex.ob g q∨(g=b∧q=o),fun g q h=>h.elim (X.ex.nc g q) (fun h=>h.2 ▸ ho),X.ex.df,X.ex.lo,X.ex.gv⟩,
    X.ed.elim .inl fun ⟨D,h1,h2,h3⟩=>.inr ⟨D,h1,.inl h2,h3⟩⟩
theorem Rel.ob {X:Cx} {s:St} {a:Act} {w:World} (hR:Rel X s a w) {b:Nat} {o:Obj} (ho:o.isCells=false) (hb:w.heap[b]? = some o):Rel (X.withOb b o ho) s a w:=by
  obtain ⟨S,m,hM,ht⟩:=hR.mem;refine ⟨hR.size,hR.defers,hR.kl,S,m,⟨hM.lm,⟨hM.frm.os,hM.frm.tape,hM.frm.output,hM.frm.size,hM.frm.block,fun g q h=>?_,hM.frm.lo⟩,hM.s0,hM.s1,hM.slt,hM.dom,hM.blk,hM.inj,⟨hM.gl.g,hM.gl.k⟩⟩,ht⟩;rcases h with h | ⟨rfl,rfl⟩
  · exact hM.frm.mark g q h
  · exact hb
theorem Rel.unob {X:Cx} {s:St} {a:Act} {w:World} {b:Nat} {o:Obj} {ho:o.isCells=false} (hR:Rel (X.withOb b o ho) s a w):Rel X s a w:=by
  obtain ⟨S,m,hM,ht⟩:=hR.mem;exact ⟨hR.size,hR.defers,hR.kl,S,m,⟨hM.lm,⟨hM.frm.os,hM.frm.tape,hM.frm.output,hM.frm.size,hM.frm.block,fun g q h=>hM.frm.mark g q (.inl h),hM.frm.lo⟩,hM.s0,hM.s1,hM.slt,hM.dom,hM.blk,hM.inj,⟨hM.gl.g,hM.gl.k⟩⟩,ht⟩
theorem Rel.obAt {X:Cx} {s:St} {a:Act} {w:World} {b:Nat} {o:Obj} {ho:o.isCells=false} (hR:Rel (X.withOb b o ho) s a w):w.heap[b]? = some o:=by
  obtain ⟨S,m,hM,ht⟩:=hR.mem;exact hM.frm.mark b o (.inr ⟨rfl,rfl⟩)
def WL (P:Program) (X:Cx) (ops:Array Oper) (Q:Exit→Act→World→Prop) (l:List Oper) (s:St):Prop:=∀ a w,Rel X s a w→wpList P ops Q l a w
section
variable {P:Program} {ty:Ty} {X:Cx} {σ:Sg} {Q:Exit→Act→World→Prop} {ops:Array Oper}
theorem WL.region {s:St} {id:Nat} {l:List Oper} {y:Code} (h:WL P X l.toArray (Exit.then (fun a w=>y.wp P Q a w) Q) l s):WA P X (.seq (.region id l.toArray false) y) Q s:=WA.seq fun a w hR=>wp_region_list (h a w hR)
theorem WL.nil {s:St} {y:Code} (h:WA P X y Q s):WL P X ops (Exit.then (fun a w=>y.wp P Q a w) Q) [] s:=fun a w hR=>wpList_nil (h a w hR)
theorem WL.evs (hT:TysOK P ty) (hσ:SgOK P σ) {r:List Oper}:∀ (l:List Oper) (s s':St) (vc:Prop),evL ty σ (fun j=>(ops[j]?).bind (·.dst)) l s=some (s',vc)→vc→WL P X ops Q r s'→WL P X ops Q (l++r) s
  | [],s,s',vc,h,_,hr=>by
    simp only [evL,Option.some.injEq,Prod.mk.injEq] at h;obtain ⟨rfl,_⟩:=h;exact hr
  | o::l,s,s',vc,h,hvc,hr=>by
    simp only [evL] at h;split at h
    · rename_i out hout;split at h
      · rename_i s2 vc2 h2;simp only [Option.some.injEq,Prod.mk.injEq] at h;obtain ⟨rfl,rfl⟩:=h;obtain ⟨hok,v1,v2⟩:=hvc;intro a w hR;refine wpList_step fun K hK=>?_;obtain ⟨S,m,hM,ht⟩:=hR.mem;refine evG_ok hT hσ hM ht (fun i _=>hR.kl _ (Nat.le_add_right _ _)) hout v1 fun v w' hL=>hK _ _ ?_;exact WL.evs hT hσ l _ s2 vc2 h2 v2 hr _ _ (hR.step hok hM ht hL)
      · cases h
    · cases h
theorem WL.ev (hT:TysOK P ty) (hσ:SgOK P σ) (l r:List Oper) {s:St} (h:∀ K:St→Prop,(∀ s',WL P X ops Q r s'→K s')→EvR ty σ (fun j=>(ops[j]?).bind (·.dst)) l s K):WL P X ops Q (l++r) s:=by
  have h1:=h (fun s'=>WL P X ops Q r s') fun _ q=>q;unfold EvR at h1;split at h1
  · rename_i s' vc he;exact WL.evs hT hσ l s s' vc he h1.1 h1.2
  · exact h1.elim
theorem Mem.more {H:List (Nat × Blk)} {S:CSet} {m:RMap} {w w':World} (hM:Mem X H S m w) (hsz:w.heap.size≤w'.heap.size) (hsame:∀ g,g<w.heap.size→w'.heap[g]? = w.heap[g]?) (h1:w'.os=w.os) (h2:w'.tape=w.tape) (h3:w'.output=w.output):Mem X H S m w' :=
  hM.world (S':=S) (fun b o q=>⟨q,cell_of_heap (hsame b (hM.slt b o q)) o⟩)
    ⟨h1.trans hM.frm.os,h2.trans hM.frm.tape,h3.trans hM.frm.output,Nat.le_trans hM.frm.size hsz,fun g hg hl=>(hsame g (Nat.lt_of_lt_of_le hg hM.frm.size)).trans (hM.frm.block g hg hl),fun g o q=>by
      have h:=hM.frm.mark g o q;exact (hsame g (Array.getElem?_eq_some_iff.1 h).1).trans h,Nat.le_trans hM.frm.lo hsz⟩ hM.s1 (fun b o q=>Nat.lt_of_lt_of_le (hM.slt b o q) hsz) fun j bj rj q1 q2 q3 q4=>⟨hsame _ (hM.lt q1 q2 q3 q4),fun _ q=>q⟩
def bmV (X:Cx) (f:FuncId):Value:=.func (.func f) #[.pointer (some ⟨(X.rows 0).g,0*(X.rows 0).es+0,none⟩)] #[]
theorem bm_at {H:List (Nat × Blk)} {S:CSet} {m:RMap} {w:World} (hM:Mem X H S m w) (h0:0<X.nl) {f:FuncId} {v:Value} (h:VR w S m (.bm f [.ptr 0 0 0]) v):v=bmV X f:=by
  cases h with
  | bm hl h =>
    rename_i cs;have e:cs = #[cs[0]'(by rw [hl];decide)]:=by
      apply Array.ext
      · simpa using hl
      · intro i q1 q2;have:i=0:=by simp at q2;omega
        subst this;rfl
    have hv:=h 0 (.ptr 0 0 0) _ rfl (Array.getElem?_eq_getElem (by rw [hl];decide));rw [e];unfold bmV;generalize cs[0]'(by rw [hl];decide)=u at hv;cases hv with
    | ptr hm =>
      have:=hM.lm 0 h0;rw [hm] at this;injection this with this;rw [this]
theorem bm_is {H:List (Nat × Blk)} {S:CSet} {m:RMap} {w:World} (hM:Mem X H S m w) (h0:0<X.nl) (f:FuncId):VR w S m (.bm f [.ptr 0 0 0]) (bmV X f) :=
  .bm rfl fun j x u hx hu=>by
    match j,hx,hu with
    | 0,hx,hu =>
      simp at hx hu;subst hx hu;have:=VR.ptr (w:=w) (S:=S) (i:=0) (off:=0) (hM.lm 0 h0);simpa using this
    | j+1,hx,hu=>simp at hx
theorem WL.mk {s:St} {o:Oper} {r:List Oper} {T d:Nat} (h1:o.op = .makeMap T none) (g1:o.guard=none) (e1:o.dst=some d) (hd:d<s.sz)
    (h:∀ b,X.w0.heap.size≤b→(∀ x,¬ X.ex.ob b x)→WL P (X.withOb b (.map #[] 0) rfl) ops Q r ⟨(d,.lit (.map (some b)))::s.tm,s.H,s.ctr+8,s.sz⟩):WL P X ops Q (o::r) s:=fun a w hR=>by
  refine wpList_step fun K hK=>?_;rw [if_pos (by simp [Region.wanted,g1])];unfold Oper.wp;have hrun:(execOp a.eval o).run P w = .ok (.value (.map (some w.heap.size))) (w.alloc (.map #[] 0)):=by
    unfold execOp;rw [h1];rfl
  rw [hrun];obtain ⟨S,m,hM,ht⟩:=hR.mem;have hal:=MapKept.heap_alloc w (.map #[] 0);refine hK _ _ (h w.heap.size hM.frm.size (fun x q=>by have:=hM.frm.mark _ _ q;simp at this) _ _ (Rel.ob ?_ rfl hal.1));have hM2:Mem X s.H S m (w.alloc (.map #[] 0)):=hM.more (by show w.heap.size≤(w.heap.push _).size;simp) (fun g hg=>hal.2 g hg) rfl rfl rfl;have hL:Left X s.H S m w ⟨.lit (.map (some w.heap.size)),[],True⟩ (.map (some w.heap.size)) (w.alloc (.map #[] 0)):=⟨S,m,⟨fun b o q=>⟨q,cell_of_heap (hal.2 b (hM.slt b o q)) o⟩,fun _ _ q=>q⟩,hM2,.lit _⟩;have hR2:=hR.step (o:=o) (out:=⟨.lit (.map (some w.heap.size)),[],True⟩) ⟨by rw [e1];exact decide_eq_true hd,rfl⟩ hM ht hL;simp only [stepS,e1,putT,List.nil_append] at hR2;rw [e1];exact hR2
theorem WL.ins {s:St} {o:Oper} {r:List Oper} {T kt et tm tv b clk:Nat} {key:Int} {es:Array MapEntry} {f:FuncId} (hb:X.w0.heap.size≤b) (hnb:∀ x,¬ X.ex.ob b x) (h1:o.op = .insert T (.tmp tm) (.const (.int .i64 key)) (.tmp tv)) (g1:o.guard=none) (e1:o.dst=none)
    (hT:P.underlying T=some (.map kt et)) (hk:P.underlying kt=some (.int .i64)) (x1:gt s.tm tm = .lit (.map (some b))) (x2:gt s.tm tv = .bm f [.ptr 0 0 0]) (hn:0<X.nl) (hf:Instr.findNow (.int .i64) (.int .i64 key) es.toList 0=some none)
    (h:WL P (X.withOb b (.map (es.push { key:=.int .i64 key,val:=bmV X f,born:=clk }) (clk+1)) rfl) ops Q r s):WL P (X.withOb b (.map es clk) rfl) ops Q (o::r) s:=fun a w hR=>by
  refine wpList_step fun K hK=>?_;rw [if_pos (by simp [Region.wanted,g1])];unfold Oper.wp;have hat:=hR.obAt;have hR0:=hR.unob;obtain ⟨S,m,hM,ht⟩:=hR0.mem;have v1:a.eval (.tmp tm) = .map (some b):=by
    have:=ht tm;rw [x1] at this;exact this.lit_inv
  have v2:a.eval (.tmp tv)=bmV X f:=by
    have:=ht tv;rw [x2] at this;exact bm_at hM hn this
  have v3:a.eval (.const (.int .i64 key)) = .int .i64 key:=rfl;have hrun:(execOp a.eval o).run P w = .ok .skip (w.putObj b (.map (es.push { key:=.int .i64 key,val:=bmV X f,born:=clk }) (clk+1))):=by
    unfold execOp;rw [h1];simp only [v1,v2,v3];simp only [Instr.mapUpdate,Sem.run_bind,run_underlying hT,Result.andThen_ok,MapKept.run_getObj_map hat,MapKept.run_checkKey hk (show MapKept.IsKey (.int .i64) (.int .i64 key) from rfl),MapKept.run_findKey hk hf,MapKept.run_setObj_map _ hat]
    rfl
  rw [hrun];refine hK _ _ (h _ _ (Rel.ob ?_ rfl (World.putObj_heap_same (Array.getElem?_eq_some_iff.1 hat).1)));have hM2:=hM.putO (o':=.map (es.push { key:=.int .i64 key,val:=bmV X f,born:=clk }) (clk+1)) hat rfl rfl (fun x q=>absurd q (hnb x)) hb;rw [e1];exact ⟨hR0.size,hR0.defers,hR0.kl,S,m,hM2,fun t=>(ht t).mono (fun b o q=>⟨q,cell_putO hat rfl rfl _⟩) fun _ _ q=>q⟩
theorem WL.get {s:St} {o:Oper} {r:List Oper} {T kt et tm tk b clk d i:Nat} {key:Int} {es:Array MapEntry} {f:FuncId} (h1:o.op = .lookup T (.tmp tm) (.tmp tk) false) (g1:o.guard=none) (e1:o.dst=some d) (hd:d<s.sz)
    (hT:P.underlying T=some (.map kt et)) (hk:P.underlying kt=some (.int .i64)) (x1:gt s.tm tm = .lit (.map (some b))) (x2:gt s.tm tk = .lit (.int .i64 key)) (hn:0<X.nl) (hf:Instr.findNow (.int .i64) (.int .i64 key) es.toList 0=some (some (i,bmV X f)))
    (h:WL P X ops Q r ⟨(d,.bm f [.ptr 0 0 0])::s.tm,s.H,s.ctr+8,s.sz⟩):WL P (X.withOb b (.map es clk) rfl) ops Q (o::r) s:=fun a w hR=>by
  refine wpList_step fun K hK=>?_;rw [if_pos (by simp [Region.wanted,g1])];unfold Oper.wp;have hat:=hR.obAt;have hR0:=hR.unob;obtain ⟨S,m,hM,ht⟩:=hR0.mem;have v1:a.eval (.tmp tm) = .map (some b):=by
    have:=ht tm;rw [x1] at this;exact this.lit_inv
  have v2:a.eval (.tmp tk) = .int .i64 key:=by
    have:=ht tk;rw [x2] at this;exact this.lit_inv
  have hrun:(execOp a.eval o).run P w = .ok (.value (bmV X f)) w:=by
    unfold execOp;rw [h1];simp only [v1,v2];simp only [Instr.lookup,Sem.run_bind,run_underlying hT,Result.andThen_ok,MapKept.run_getObj_map hat,MapKept.run_checkKey hk (show MapKept.IsKey (.int .i64) (.int .i64 key) from rfl),MapKept.run_findKey hk hf,Sem.run_pure]
    rfl
  rw [hrun];have hL:Left X s.H S m w ⟨.bm f [.ptr 0 0 0],[],True⟩ (bmV X f) w:=⟨S,m,Adv.refl _ _ _,hM,bm_is hM hn f⟩;have hR2:=hR0.step (o:=o) (out:=⟨.bm f [.ptr 0 0 0],[],True⟩) ⟨by rw [e1];exact decide_eq_true hd,rfl⟩ hM ht hL;simp only [stepS,e1,putT,List.nil_append] at hR2;refine hK _ _ (h _ _ ?_);rw [e1];exact hR2
theorem WL.notNil {s:St} {o:Oper} {r:List Oper} {t t2 a0 d:Nat} {f:FuncId} {fst:List AV} {ps rs:Array TypeId} {vd:Bool} (h1:o.op = .binOp .eql t (.tmp a0) (.const .nilFunc) t2) (g1:o.guard=none) (e1:o.dst=some d) (hd:d<s.sz) (hT:P.underlying t=some (.func ps rs vd)) (x1:gt s.tm a0 = .bm f fst)
    (h:WL P X ops Q r ⟨(d,.lit (.bool false))::s.tm,s.H,s.ctr+8,s.sz⟩):WL P X ops Q (o::r) s:=fun a w hR=>by
  refine wpList_step fun K hK=>?_;rw [if_pos (by simp [Region.wanted,g1])];unfold Oper.wp;obtain ⟨S,m,hM,ht⟩:=hR.mem;obtain ⟨cs,v1⟩:∃ cs,a.eval (.tmp a0) = .func (.func f) cs #[]:=by
    have:=ht a0;rw [x1] at this;show ∃ cs,a.tmps.getD a0 undef=_;generalize a.tmps.getD a0 undef=u at this;cases this with
    | bm hl h=>exact ⟨_,rfl⟩
  have v2:a.eval (.const .nilFunc) = .nilFunc:=rfl;have hrun:(execOp a.eval o).run P w = .ok (.value (.bool false)) w:=by
    unfold execOp;rw [h1];simp only [v1,v2];have:(Op.equal t (.func (.func f) cs #[]) .nilFunc).run P w = .ok false w:=by
      unfold Op.equal;rw [show Op.maxDepth=9999+1 from rfl]
      unfold Op.equalIn;simp [run_underlying hT]
    simp [eqGuard,binOp,this]
  rw [hrun];have hL:Left X s.H S m w ⟨.lit (.bool false),[],True⟩ (.bool false) w:=⟨S,m,Adv.refl _ _ _,hM,.lit _⟩;have hR2:=hR.step (o:=o) (out:=⟨.lit (.bool false),[],True⟩) ⟨by rw [e1];exact decide_eq_true hd,rfl⟩ hM ht hL;simp only [stepS,e1,putT,List.nil_append] at hR2;refine hK _ _ (h _ _ ?_);rw [e1];exact hR2
theorem WL.ev1 (hT:TysOK P ty) (hσ:SgOK P σ) {o1:Oper} {r:List Oper} {s:St} (h:∀ K:St→Prop,(∀ s',WL P X ops Q r s'→K s')→EvR ty σ (fun j=>(ops[j]?).bind (·.dst)) [o1] s K):WL P X ops Q (o1::r) s:=WL.ev hT hσ [o1] r h
theorem WL.ev2 (hT:TysOK P ty) (hσ:SgOK P σ) {o1 o2:Oper} {r:List Oper} {s:St} (h:∀ K:St→Prop,(∀ s',WL P X ops Q r s'→K s')→EvR ty σ (fun j=>(ops[j]?).bind (·.dst)) [o1,o2] s K):WL P X ops Q (o1::o2::r) s:=WL.ev hT hσ [o1,o2] r h
theorem WL.ev3 (hT:TysOK P ty) (hσ:SgOK P σ) {o1 o2 o3:Oper} {r:List Oper} {s:St} (h:∀ K:St→Prop,(∀ s',WL P X ops Q r s'→K s')→EvR ty σ (fun j=>(ops[j]?).bind (·.dst)) [o1,o2,o3] s K):WL P X ops Q (o1::o2::o3::r) s:=WL.ev hT hσ [o1,o2,o3] r h
end
section
variable {P:Program} {ty:Ty} {X:Cx} {σ:Sg} {Q:Exit→Act→World→Prop} {ops:Array Oper}
theorem WL.normT {r:List Oper} {s:St} (t:Nat) (h:∀ K:St→Prop,(∀ s',WL P X ops Q r s'→K s')→NtR s t K):WL P X ops Q r s:=fun a w hR=>by
  obtain ⟨s',h1,h2⟩:=Rel.normT (h (fun s'=>WL P X ops Q r s') (fun _ h=>h)) hR;exact h1 a w h2
theorem WL.evk (hT:TysOK P ty) (hσ:SgOK P σ) (k:Nat) {l:List Oper} {s:St} (h:∀ K:St→Prop,(∀ s',WL P X ops Q (l.drop k) s'→K s')→EvR ty σ (fun j=>(ops[j]?).bind (·.dst)) (l.take k) s K):WL P X ops Q l s:=by
  have:=WL.ev hT hσ (l.take k) (l.drop k) h;rw [List.take_append_drop] at this;exact this
theorem freeze_heap {w:World} {g n:Nat} {cur:Array Value} {T:TypeId} (h:w.heap[g]? = some (.cells cur T)):(∀ j,j ≠ g→(w.freeze ⟨g,n,none⟩ 1).heap[j]? = w.heap[j]?)∧(∀ a,(w.freeze ⟨g,n,none⟩ 1).cell? a=w.cell? a)∧(w.freeze ⟨g,n,none⟩ 1).heap.size=w.heap.size:=by
  have e:(w.freeze ⟨g,n,none⟩ 1).heap=w.heap.modify g fun
      | .cells c elem (lo,hi)=>.cells c elem (if lo == hi then (n,n+1) else (min lo n,max hi (n+1)))
      | o=>o:=by
    unfold World.freeze;rw [if_neg (by decide)];rfl
  have h1:∀ j,j ≠ g→(w.freeze ⟨g,n,none⟩ 1).heap[j]? = w.heap[j]?:=fun j hj=>by
    rw [e,Array.getElem?_modify];rw [if_neg (fun q=>hj q.symm)]
  refine ⟨h1,fun a=>?_,by rw [e];simp⟩;by_cases ha:a.block=g
  · have e2:(w.freeze ⟨g,n,none⟩ 1).heap[a.block]? = some (.cells cur T (n,n+1)):=by
      rw [e,Array.getElem?_modify,ha,if_pos rfl,h];rfl
    unfold World.cell?;rw [e2,ha,h]
  · unfold World.cell?;rw [h1 _ ha]
theorem WL.conv {s:St} {o:Oper} {r:List Oper} {t e a0 d k n:Nat} {bs:List UInt8} {c:AV} {vc:Prop} (h1:o.op = .convert t t (.tmp a0)) (g1:o.guard=none) (e1:o.dst=some d) (hd:d<s.sz) (hT:P.underlying t=some (.slice e)) (hE:P.underlying e=some (.int .u8))
    (x1:gt s.tm a0 = .sl k 1 0 n) (hcv:cvY s.H (.sl k 1 0 n)=some (.by_ bs,[(k,⟨c,1,false⟩)],vc)) (hvc:vc) (hn:0<n)
    (h:WL P X ops Q r ⟨(d,.by_ bs)::s.tm,(k,⟨c,2,false⟩)::s.H,s.ctr+8,s.sz⟩):WL P X ops Q (o::r) s:=fun a w hR=>by
  refine wpList_step fun K hK=>?_;rw [if_pos (by simp [Region.wanted,g1])];unfold Oper.wp;obtain ⟨S0,m,hM0,ht⟩:=hR.mem;have hv0:=ht a0;rw [x1] at hv0;obtain ⟨S,hM1,hA,hvb,_⟩:=cvY_ok hM0 hv0 hcv hvc;obtain ⟨rw_,hmk,hB⟩:=hM1.blk k ⟨c,1,false⟩ (by simp [lk]);have hB:=hB (show (1:Nat)<3 by decide);obtain ⟨A,cp,hval,hcap,hAdr⟩:∃ A cp,a.eval (.tmp a0) = .slice A n cp∧0<rw_.cap∧A=some ⟨rw_.g,0*rw_.es,none⟩:=by
    show ∃ A cp,a.tmps.getD a0 undef=_∧_∧_;generalize a.tmps.getD a0 undef=u at hv0;cases hv0 with
    | sl q1 q2 q3 q4 q5 q6 =>
      rw [hmk] at q1;injection q1 with q1;subst q1;have:0<rw_.cap:=by omega
      exact ⟨_,_,rfl,this,q5 this⟩
  obtain ⟨hown,⟨cur,T,hheap,hsz⟩,_⟩:=hB.row (Nat.le_refl 1) hcap;have hsh:w.shape? rw_.g=some (T,cur.size):=by
    unfold World.shape?;rw [hheap]
  have hrun:(execOp a.eval o).run P w = .ok (.value (.slice A n cp)) (w.freeze ⟨rw_.g,cur.size,none⟩ 1):=by
    unfold execOp;rw [h1];simp only [hval];rw [hAdr];simp [convert,run_underlying hT,run_underlying hE,markStringish,hsh]
  rw [hrun];obtain ⟨f1,f2,f3⟩:=freeze_heap (n:=cur.size) hheap;have hM2:=hM1.shut (k:=k) (b:=⟨c,1,false⟩) (by simp [lk]) hmk rfl;have hgm:X.w0.heap.size≤rw_.g∨(X.ex.gv=true∧X.lent rw_.g):=by
    have:X.own false rw_.g:=hown;unfold Cx.own at this;have this:X.mine rw_.g:=by simpa using this
    exact this
  have hM3:Mem X ((k,⟨c,2,false⟩)::([(k,⟨c,1,false⟩)]++s.H)) S m (w.freeze ⟨rw_.g,cur.size,none⟩ 1):=by
    refine hM2.world (S':=S) (fun b o q=>⟨q,f2 _⟩) ⟨hM1.frm.os,hM1.frm.tape,hM1.frm.output,by rw [f3];exact hM1.frm.size,fun g hg hl=>?_,fun g q hq=>?_,by rw [f3];exact hM1.frm.lo⟩ hM2.s1 (fun b o q=>by rw [f3];exact hM2.slt b o q) fun j bj rj q1 q2 q3 q4=>⟨f1 _ ?_,fun _ q=>q⟩
    · refine (f1 g fun e=>?_).trans (hM1.frm.block g hg hl);subst e;rcases hgm with q | q
      · omega
      · exact hl q.2
    · refine (f1 g fun e=>?_).trans (hM1.frm.mark g q hq);subst e;have:=hM1.frm.mark _ q hq;rw [hheap] at this;injection this with this;have h9:=X.ex.nc _ q hq;rw [← this] at h9;cases h9
    · intro e;simp only [lk] at q1;split at q1
      · injection q1 with q1;subst q1;simp only at q3
        omega
      · rename_i hne;exact hM1.apart (k:=k) (b:=⟨c,1,false⟩) (by simp [lk]) hmk (Nat.le_refl 1) hcap (j:=j) (bj:=bj) (by simp only [List.singleton_append,lk,if_neg hne];rw [List.singleton_append,lk,if_neg hne] at q1;exact q1) q2 q3 q4 hne e
  have hM4:Mem X ((k,⟨c,2,false⟩)::s.H) S m (w.freeze ⟨rw_.g,cur.size,none⟩ 1):=hM3.congr fun j=>by
    simp only [List.singleton_append,lk];split <;> rfl
  have hvb2:VR (w.freeze ⟨rw_.g,cur.size,none⟩ 1) S m (.by_ bs) (.slice A n cp):=by
    rw [← hval];exact VR.mono (fun b o q=>⟨q,f2 _⟩) (fun _ _ q=>q) hvb
  refine hK _ _ (h _ _ ⟨by rw [put_size];exact hR.size,by rw [put_defers];exact hR.defers,fun j hj=>?_,S,m,hM4,?_⟩)
  · have hj:s.ctr+8≤j:=hj;have hkk:lk s.H k ≠ none:=fun q=>by
      unfold cvY cvX cv1 at hcv;simp [q] at hcv
    have:=hR.kl j (by omega);simp only [lk];split
    · rename_i e;subst e;exact absurd this hkk
    · exact this
  · have h9:TmR (w.freeze ⟨rw_.g,cur.size,none⟩ 1) S m s.tm a:=fun t=>VR.mono (fun b o q=>⟨(hA.st b o q).1,(f2 _).trans (hA.st b o q).2⟩) (fun _ _ q=>q) (ht t);have:=put_tm (d:=o.dst) (v:=.slice A n cp) (x:=.by_ bs) h9 (fun t q=>by rw [e1] at q;cases q;rw [hR.size];exact hd) hvb2;rw [e1] at this ⊢;exact this
end
end Go.TravelAbs
