import Derived.Test.YtjjkfpbkmhfckaaGreatDoorAbsT
import Derived.Attr
set_option linter.unusedVariables false
set_option linter.unusedSimpArgs false
set_option maxHeartbeats 1000000
set_option maxRecDepth 10000
namespace Go.TravelAbs
open Go.RowKit Go.TravelBase
def vEq:Value→Value→Bool
  | .int k n,.int k' n'=>decide (k=k') && decide (n=n')
  | .bool a,.bool b=>a == b
  | .string a,.string b=>decide (a.data=b.data)
  | .slice none 0 0,.slice none 0 0=>true
  | .pointer none,.pointer none=>true
  | .nilFunc,.nilFunc=>true
  | .nilIface,.nilIface=>true
  | _,_=>false
theorem vEq_ok {a b:Value} (h:vEq a b=true):a=b:=by
  unfold vEq at h;split at h
  · simp only [Bool.and_eq_true,decide_eq_true_eq] at h;rw [h.1,h.2]
  · simp only [beq_iff_eq] at h;rw [h]
  · simp only [decide_eq_true_eq] at h;rename_i x y;cases x;cases y
    simp only at h
    rw [h]
  all_goals first | rfl | cases h
def vsEq:List Value→List Value→Bool
  | [],[]=>true
  | a::r,b::r'=>vEq a b && vsEq r r'
  | _,_=>false
theorem vsEq_ok:∀ {a b:List Value},vsEq a b=true→a=b
  | [],[],_=>rfl
  | a::r,b::r',h=>by
    simp only [vsEq,Bool.and_eq_true] at h;rw [vEq_ok h.1,vsEq_ok h.2]
  | [],_::_,h=>by cases h
  | _::_,[],h=>by cases h
def kindB (P:Program) (d:TypeDesc):TK→Bool
  | .one=>!rowB (some d)
  | .int k=>(match d with | .int k'=>decide (k'=k) | _=>false)
  | .bool=>(match d with | .bool=>true | _=>false)
  | .str=>(match d with | .string=>true | _=>false)
  | .slice e=>(match d with | .slice e'=>e' == e | _=>false)
  | .struct fs=>(match d with | .struct fields=>fieldsB P fields == fs | _=>false)
  | .array n e=>(match d with | .array n' e'=>n' == n && e' == e | _=>false)
theorem kindB_ok {P:Program} {d:TypeDesc} {k:TK} (h:kindB P d k=true):KOK P d k:=by
  cases k <;> simp only [kindB] at h <;> simp only [KOK]
  case one=>simpa using h
  case int k=>cases d <;> simp at h;rw [h]
  case bool=>cases d <;> simp at h;rfl
  case str=>cases d <;> simp at h;rfl
  case slice e=>cases d <;> simp at h;rw [h]
  case struct fs=>cases d <;> simp at h;exact ⟨_,rfl,h⟩
  case array n e=>cases d <;> simp at h;rw [h.1,h.2]
def tyB (P:Program) (t:Nat) (ti:TI):Bool :=
  match P.info? t,P.underlying t with
  | some i,some d=>i.size == ti.size && i.bytes == ti.bytes && (match i.zero with | some z=>vsEq z.cells.toList ti.zero | none=>false) && kindB P d ti.kind
  | _,_=>false
theorem tyB_ok {P:Program} {t:Nat} {ti:TI} (h:tyB P t ti=true):TyOK P t ti:=by
  unfold tyB at h;split at h
  · rename_i i d hi hu;simp only [Bool.and_eq_true,beq_iff_eq] at h;obtain ⟨⟨⟨h1,h2⟩,h3⟩,h4⟩:=h;split at h3
    · rename_i z hz;exact ⟨i,d,z,hi,hu,h1,h2,hz,vsEq_ok h3,kindB_ok h4⟩
    · cases h3
  · cases h
def ekB (P:Program) (t:TypeId):EK→Bool
  | .int=>(match P.underlying t with | some (.int _)=>true | _=>false)
  | .bool=>(match P.underlying t with | some .bool=>true | _=>false)
  | .str=>(match P.underlying t with | some .string=>true | _=>false)
def eqFsB (P:Program):List Field→Nat→List EK→Bool
  | [],_,[]=>true
  | f::fs,o,k::ks=>f.name != "_" && (f.offset == o) && ekB P f.type k && eqFsB P fs (o+1) ks
  | _,_,_=>false
def eqTB (P:Program) (t:TypeId) (ks:List EK):Bool :=
  (match P.underlying t with | some (.struct _)=>true | _=>false) && !P.stoodInHeld t && !P.eqGuardType P.depth t && eqFsB P (P.fieldsOf t).toList 0 ks
theorem ekB_ok {P:Program} {t:TypeId} {k:EK} (h:ekB P t k=true):EkOK P t k:=by
  cases k <;> simp only [ekB] at h <;> split at h <;> first | (cases h;done) | (rename_i h1;first | exact ⟨_,h1⟩ | exact h1)
theorem eqFsB_ok {P:Program}:∀ {fs:List Field} {o:Nat} {ks:List EK},eqFsB P fs o ks=true→EqFs P fs o ks
  | [],_,[],_=>trivial
  | f::fs,o,k::ks,h=>by
    simp only [eqFsB,Bool.and_eq_true,bne_iff_ne,ne_eq,beq_iff_eq] at h;exact ⟨h.1.1.1,h.1.1.2,ekB_ok h.1.2,eqFsB_ok h.2⟩
  | [],_,_::_,h=>by cases h
  | _::_,_,[],h=>by cases h
theorem eqTB_ok {P:Program} {t:TypeId} {ks:List EK} (h:eqTB P t ks=true):EqT P t ks:=by
  simp only [eqTB,Bool.and_eq_true,Bool.not_eq_true'] at h;obtain ⟨⟨⟨h1,h2⟩,h3⟩,h4⟩:=h;split at h1
  · rename_i fs hu;exact ⟨by simp [Program.fieldsOf,hu],h2,h3,eqFsB_ok h4⟩
  · cases h1
def tyOf (l:List (Nat × TI)) (e:List (Nat × List EK)):Ty:=⟨fun t=>lk l t,fun t=>lk e t⟩
theorem tysOK {P:Program} {l:List (Nat × TI)} {e:List (Nat × List EK)} (h:l.all (fun x=>tyB P x.1 x.2)=true) (h2:e.all (fun x=>eqTB P x.1 x.2)=true):TysOK P (tyOf l e):=by
  refine ⟨fun t ti ht=>?_,fun t ks hk=>?_⟩
  · exact tyB_ok (List.all_eq_true.1 h _ (lk_mem ht))
  · exact eqTB_ok (List.all_eq_true.1 h2 _ (lk_mem hk))
def EvR (ty:Ty) (σ:Sg) (gd:Nat→Option Tmp) (l:List Oper) (s:St) (K:St→Prop):Prop :=
  match evL ty σ gd l s with
  | some (s',vc)=>vc∧K s'
  | none=>False
section
variable {P:Program} {ty:Ty} {X:Cx} {H:List (Nat × Blk)} {S:CSet} {m:RMap} {w:World} {σ:Sg} {Q:Exit→Act→World→Prop}
theorem WA.regionK {s:St} {id:Nat} {l:List Oper} {y:Code} (hT:TysOK P ty) (hσ:SgOK P σ) (h:∀ K:St→Prop,(∀ s',WA P X y Q s'→K s')→EvR ty σ (fun j=>(l[j]?).bind (·.dst)) l s K):WA P X (.seq (.region id l.toArray false) y) Q s:=by
  have h1:=h (fun s'=>WA P X y Q s') (fun _ h=>h);unfold EvR at h1;split at h1
  · rename_i s' vc he;refine WA.regionS hT hσ (vc:=vc) (s':=s') ?_ h1.1 h1.2;rw [← he];congr 1
    funext j
    simp
  · exact h1.elim
theorem WA.regionE {s:St} {id:Nat} {l:List Oper} (hT:TysOK P ty) (hσ:SgOK P σ) (h:∀ K:St→Prop,(∀ s',(∀ a w,Rel X s' a w→Q .normal a w)→K s')→EvR ty σ (fun j=>(l[j]?).bind (·.dst)) l s K):WA P X (.region id l.toArray false) Q s:=by
  have h1:=h (fun s'=>∀ a w,Rel X s' a w→Q .normal a w) (fun _ h=>h);unfold EvR at h1;split at h1
  · rename_i s' vc he;refine WA.region hT hσ (vc:=vc) (s':=s') ?_ h1.1 h1.2;rw [← he];congr 1
    funext j
    simp
  · exact h1.elim
theorem WA.skipT {s:St} {z:Code} (h:WA P X z Q s):WA P X .skip (Exit.then (fun a w=>z.wp P Q a w) Q) s:=WA.skip h
theorem wrap_i64 {x:Int} (h1 : -9223372036854775808≤x) (h2:x≤9223372036854775807):IntKind.i64.wrap x=x:=by
  rw [IntKind.wrap_i64];omega
theorem inR_i64 {x:Int}:inR .i64 x ↔ -9223372036854775808≤x∧x≤9223372036854775807:=by
  unfold inR;rw [IntKind.wrap_i64];omega
theorem inR_u8 {x:Int}:inR .u8 x ↔ 0≤x∧x≤255:=by
  unfold inR;rw [IntKind.wrap_u8];omega
theorem byteOK_int {k:IntKind} {z:Int}:byteOK (.lit (.int k z)) ↔ k = .u8∧0≤z∧z<256:=by
  unfold byteOK bA toB;constructor
  · intro h;simp only [AV.lit.injEq,Value.int.injEq] at h;have:=(UInt8.ofNat z.toNat).toNat_lt;exact ⟨h.1,by omega⟩
  · rintro ⟨rfl,h1,h2⟩;simp only [AV.lit.injEq,Value.int.injEq,true_and];rw [UInt8.toNat_ofNat'];omega
theorem Rd_of_VR {bs:List UInt8} {v:Value} (h:VR w S m (.by_ bs) v) (hs:∀ b o,S b o→b<w.heap.size):∃ A c,v = .slice A bs.length c∧Rd w A bs.length c (bvs bs):=by
  cases h with
  | by_ hn hc hm h0 hA =>
    subst hn;refine ⟨_,_,rfl,by simp [bvs],hc,hm,h0,fun hpos=>?_⟩;obtain ⟨b,off,rfl,h1⟩:=hA.at_ hpos;refine ⟨b,off,rfl,hs _ _ (h1 0 hpos).1,fun j u hu=>?_⟩;have hj:j<bs.length:=by have:=(List.getElem?_eq_some_iff.1 hu).1;simpa [bvs] using this
    rw [(h1 j hj).2];simp only [bvs,List.getElem?_map,List.getElem?_eq_getElem hj,Option.map_some,Option.some.injEq] at hu;subst hu;simp [bv,List.getD,List.getElem?_eq_getElem hj]
theorem VR_of_Rd {bs:List UInt8} {A:Option Addr} {n c:Nat} (h:Rd w A n c (bvs bs)) (hs:∀ b o,b<w.heap.size→S b o):VR w S m (.by_ bs) (.slice A n c):=by
  have hl:bs.length=n:=by have:=h.len;simpa [bvs] using this
  refine .by_ hl h.cap h.2.2.1 h.2.2.2.1 ?_;rcases Nat.eq_zero_or_pos n with h0 | hpos
  · exact .inl h0
  · obtain ⟨b,off,rfl,hlt,hc⟩:=h.at_ hpos;refine .inr ⟨b,off,rfl,fun i hi=>⟨hs _ _ hlt,hc i _ ?_⟩⟩;have hi':i<bs.length:=by omega
    simp [bvs,List.getElem?_eq_getElem hi',List.getD,bv]
theorem Mem_of_Ap {w':World} {T:TypeId} {A:Option Addr} {n c:Nat} {bs:List UInt8} (hs:∀ b o,S b o→b<w.heap.size) (hgl:GLw w S) (h:Ap w' w.heap.size T A n c (bvs bs)) (hb:Below w.heap.size w w') (rows:Nat→Row) :
    ∃ m',Mem ⟨w,S,0,rows,.nil,.inl rfl⟩ [(1000,⟨.by_ bs,0,false⟩)] S m' w'∧VR w' S m' (.sl 1000 1 0 bs.length) (.slice A n c):=by
  have hl:bs.length=n:=by have:=h.rd.len;simpa [bvs] using this
  have h0:Mem ⟨w,S,0,rows,.nil,.inl rfl⟩ [] S (fun _=>none) w' :=
    ⟨fun p hp=>absurd hp (Nat.not_lt_zero p),⟨hb.os,hb.tape,hb.output,hb.size,fun g hg _=>hb.block g hg,fun _ _ q=>q.elim,Nat.zero_le _⟩,fun _ _ q=>q,fun _ _ q=>.inl q,fun b o q=>Nat.lt_of_lt_of_le (hs b o q) hb.size,fun _ _=>rfl,(fun k b hk=>absurd hk (by simp [lk])),(fun k k' b b' r r' hk=>absurd hk (by simp [lk])),⟨hgl.mono fun b o q=>⟨q,cell_of_heap (hb.block b (hs b o q)) o⟩,fun _ _ _ q=>q.elim⟩⟩
  have empty:∀ (A':Option Addr),n=0→c=0→(A'=none→c=0) → ∃ m',Mem ⟨w,S,0,rows,.nil,.inl rfl⟩ [(1000,⟨.by_ bs,0,false⟩)] S m' w'∧VR w' S m' (.sl 1000 1 0 bs.length) (.slice A' n c):=by
    intro A' hn hc _;obtain ⟨q1,_⟩:=h0.newE (k:=1000) rfl (c:=.by_ bs) (by simp only [cN];omega);refine ⟨_,q1,?_⟩;subst hc;rw [hl];exact .sl (k:=1000) (r:=⟨0,0,cE (.by_ bs)⟩) (by simp [mset]) rfl (by simp only;omega) (Nat.zero_le _) (fun h=>absurd h (by simp)) (fun _=>rfl)
  rcases h with h | ⟨hn,hc,_⟩
  · rcases h.2 with ⟨h1,_⟩ | ⟨g,cap,cur,h1,hbg,hg,hnc,hcm,hcs,htake⟩
    · injection h1 with e1 e2 e3;exact empty A (by omega) e3 (fun _=>e3)
    · injection h1 with e1 e2 e3;subst e1;subst e3;have hha:HA w' S (fun _=>none) 1 (.by_ bs) cur:=by
        intro i hi;simp only [cN] at hi;refine ⟨rfl,fun j y hy=>?_⟩;simp only [cAt,cl_bA] at hy;match j,hy with
        | 0,hy =>
          simp at hy;subst hy;have hlt:i<n*1:=by omega
          have hx:(bvs bs)[i]? = some (bv bs[i]):=by simp [bvs,List.getElem?_eq_getElem hi]
          rw [← htake,List.getElem?_take,if_pos hlt] at hx;refine ⟨bv bs[i],by simpa using hx,?_⟩;have:bA (bs[i]?.getD 0) = .lit (bv bs[i]):=by simp [bA,bv,List.getElem?_eq_getElem hi]
          rw [this];exact .lit _
      let r:Row:=⟨g,c,1⟩
      have hglt:g<w'.heap.size:=by
        rcases Nat.lt_or_ge g w'.heap.size with hlt | hge
        · exact hlt
        · rw [Array.getElem?_eq_none hge] at hg;cases hg
      have hM:=h0.upd (S':=S) (w':=w') 1000 ⟨.by_ bs,0,false⟩ r (.inl rfl) (fun _ _ q=>⟨q,rfl⟩) h0.frm h0.s1 h0.slt (fun j bj rj _ hj=>absurd hj (by simp [lk])) (fun _=>⟨rfl,by simp only [cN];show bs.length≤c;omega,hcm,fun i hi=>by
          obtain ⟨q1,q2⟩:=hha i hi;refine ⟨q1,fun j y hy=>?_⟩;obtain ⟨u,h3,h4⟩:=q2 j y hy;refine ⟨u,?_,h4.mono (fun _ _ q=>⟨q,rfl⟩) (fun _ _ q=>by cases q)⟩;unfold World.cell?;rw [show r.g=g from rfl,hg]
          simpa [r] using h3,fun h=>by simp at h,fun _ _=>⟨.inl hbg,⟨cur,T,hg,hcs⟩,fun o _ hso=>by have h9:S g o:=hso;have:=hs _ _ h9;omega⟩⟩)
      refine ⟨_,hM,?_⟩;rw [hl];have hh:=VR.sl (w:=w') (S:=S) (m:=mset (fun _=>none) 1000 r) (k:=1000) (es:=1) (i:=0) (n:=n) (r:=r) (A:=some ⟨g,0,none⟩) (by simp [mset]) rfl (by show 0+n≤c;omega) hcm (fun _=>by simp [r]) (fun h=>by cases h);exact hh
  · exact empty A hn hc (fun _=>hc)
theorem FnS.fr1 {f:FuncId} {args:List AV} {T:TypeId} {L:List UInt8} (h:∀ (w:World) (S:CSet) (m:RMap) (vs:Array Value),(∀ b o,S b o→b<w.heap.size)→vs.size=args.length→(∀ (j:Nat) (x:AV) (v:Value),args[j]? = some x→vs[j]? = some v→VR w S m x v)→Calls P f vs w (RetS T L.length (bvs L) w)):FnS P f args [] (.fr (.by_ L)) []:=by
  intro w S rows vs hs hgl hvs ha _ _;refine (h w S _ vs hs hvs ha).mono ?_;rintro e w' ⟨A,c,rfl,hap,hb⟩;obtain ⟨m',q1,q2⟩:=Mem_of_Ap hs hgl hap hb rows;exact ⟨_,S,m',rfl,q1,q2⟩
theorem FnS.fr2 {f:FuncId} {args:List AV} {T:TypeId} {L:List UInt8} {err:Int} (h:∀ (w:World) (S:CSet) (m:RMap) (vs:Array Value),(∀ b o,S b o→b<w.heap.size)→vs.size=args.length→(∀ (j:Nat) (x:AV) (v:Value),args[j]? = some x→vs[j]? = some v→VR w S m x v)→Calls P f vs w (RetSE T L.length (bvs L) err w)):FnS P f args [] (.tup [.fr (.by_ L),.lit (.int .i64 err)]) []:=by
  intro w S rows vs hs hgl hvs ha _ _;refine (h w S _ vs hs hvs ha).mono ?_;rintro e w' ⟨A,c,rfl,hap,hb⟩;obtain ⟨m',q1,q2⟩:=Mem_of_Ap hs hgl hap hb rows;refine ⟨_,S,m',rfl,q1,?_⟩;refine .tup rfl fun j x u hx hu=>?_;match j,hx,hu with
  | 0,hx,hu =>
    simp [rcv,rcvL,rcvP] at hx hu;subst hx hu;exact q2
  | 1,hx,hu =>
    simp [rcv,rcvL,rcvP] at hx hu;subst hx hu;exact .lit _
  | j+2,hx,hu=>simp [rcv,rcvL] at hx
end
end Go.TravelAbs
namespace Go.TravelAbs
open Go.RowKit Go.TravelBase
def inL:Nat→List Nat→Bool
  | _,[]=>false
  | k,x::r=>if k=x then true else inL k r
theorem inL_mem:∀ {k:Nat} {l:List Nat},inL k l=true ↔ k∈l
  | k,[]=>by simp [inL]
  | k,x::r=>by
    simp only [inL,List.mem_cons];split
    · rename_i e;simp [e]
    · rename_i e;rw [inL_mem];simp [e]
def nm (gd:Nat→Option Tmp) (o:Oper):List Nat :=
  (o.op.operands.toList.filterMap fun x=>match x with | .tmp t=>some t | _=>none)++(match o.guard with | some (j,_)=>(gd j).toList | none=>[])
def ordB (tbl:List (List Nat)) (i j:Nat):Bool:=inL i (tbl.getD j []) || inL j (tbl.getD i [])
def drB (ops:Array Oper) (tbl:List (List Nat)) (nb:List Nat):Bool :=
  ops.toList.zipIdx.all fun x =>
    (x.1.after.toList.all fun e=>!Region.binds .any e || decide (e.on<x.2)) &&
    ((tbl.getD x.2 []).all fun i=>(x.1.after.toList.any fun e=>Region.binds .any e && (e.on == i || inL i (tbl.getD e.on []))) && ((tbl.getD i []).all fun i'=>inL i' (tbl.getD x.2 []))) &&
    (inL x.2 nb || blind x.1.op) &&
    (ops.toList.zipIdx.all fun y=>y.2 == x.2 || (match y.1.dst with | some t=>!(inL t (nm (fun j=>(ops[j]?).bind (·.dst)) x.1) || x.1.dst == some t) || ordB tbl y.2 x.2 | none=>true))
def ownK (ctr j k:Nat):Bool:=decide (ctr+8*j≤k) && decide (k<ctr+8*j+8)
def keyOK (tbl:List (List Nat)) (nb:List Nat) (ctr j:Nat) (eff:List (Nat × Blk)):Bool :=
  eff.all (fun x=>ownK ctr j x.1 || (inL j nb && (decide (x.1<ctr) || inL ((x.1-ctr) / 8) (tbl.getD j []))))
def visH (tbl:List (List Nat)) (j:Nat):List (Nat × List (Nat × Blk))→List (Nat × Blk)
  | []=>[]
  | x::r=>if inL x.1 (tbl.getD j [])=true then x.2++visH tbl j r else visH tbl j r
def addE (j:Nat) (eff:List (Nat × Blk)) (he:List (Nat × List (Nat × Blk))):List (Nat × List (Nat × Blk)) :=
  match eff with
  | []=>he
  | e=>(j,e)::he
def allH:List (Nat × List (Nat × Blk))→List (Nat × Blk)
  | []=>[]
  | x::r=>x.2++allH r
def wrB (tbl:List (List Nat)) (nb:List Nat) (ctr:Nat):List (Nat × List (Nat × Blk))→Bool
  | []=>true
  | x::r=>(x.2.all (fun y=>ownK ctr x.1 y.1) || nb.all fun j=>j == x.1 || ordB tbl x.1 j) && wrB tbl nb ctr r
def evD (ty:Ty) (σ:Sg) (gd:Nat→Option Tmp) (tbl:List (List Nat)) (nb:List Nat) (H0:List (Nat × Blk)) (ctr sz:Nat):List Oper→Nat→List (Nat × AV)→List (Nat × List (Nat × Blk))→Option (List (Nat × AV) × List (Nat × List (Nat × Blk)) × Prop)
  | [],_,tm,he=>some (tm,he,True)
  | o::r,j,tm,he =>
    match evG ty σ gd (visH tbl j he++H0) (ctr+8*j) tm o with
    | some out =>
      match evD ty σ gd tbl nb H0 ctr sz r (j+1) (putT o.dst out.v tm) (addE j out.eff he) with
      | some (tm',he',vc)=>some (tm',he',dOK o.dst sz=true∧keyOK tbl nb ctr j out.eff=true∧out.vc∧vc)
      | none=>none
    | none=>none
structure En where
  j:Nat
  ps:List (Nat × AV)
  ef:List (Nat × Blk)
theorem flatMap_cg {α β:Type} {f g:α→List β}:∀ {l:List α},(∀ x∈l,f x=g x)→l.flatMap f=l.flatMap g
  | [],_=>rfl
  | y::l,h=>by
    rw [List.flatMap_cons,List.flatMap_cons,h y (by simp),flatMap_cg fun x hx=>h x (by simp [hx])]
def FT (acc:List En) (d:Nat→Bool):List (Nat × AV):=acc.flatMap fun e=>if d e.j=true then e.ps else []
def FH (acc:List En) (d:Nat→Bool):List (Nat × Blk):=acc.flatMap fun e=>if d e.j=true then e.ef else []
theorem lk_none_of {α:Type}:∀ {l:List (Nat × α)} {k:Nat},(∀ x∈l,x.1 ≠ k)→lk l k=none
  | [],_,_=>rfl
  | x::l,k,h=>by
    simp only [lk];rw [if_neg (fun e=>h x (by simp) e.symm)];exact lk_none_of fun y hy=>h y (by simp [hy])
theorem lk_swap {α:Type} (a b R:List (Nat × α)) (k:Nat) (h:∀ x∈a,∀ y∈b,x.1 ≠ y.1):lk (a++(b++R)) k=lk (b++(a++R)) k:=by
  rw [lk_append,lk_append b,lk_append b,lk_append a];cases ha:lk a k with
  | none=>rfl
  | some x =>
    have hb:lk b k=none:=lk_none_of fun y hy e=>h _ (lk_mem ha) y hy e.symm;simp [hb]
theorem lk_pre {α:Type} (x:List (Nat × α)) {y z:List (Nat × α)} {k:Nat} (h:lk y k=lk z k):lk (x++y) k=lk (x++z) k:=by
  rw [lk_append,lk_append,h]
theorem lk_skip {α:Type} {x y:List (Nat × α)} {k:Nat} (h:∀ e∈x,e.1 ≠ k):lk (x++y) k=lk y k:=by
  rw [lk_append,lk_none_of h]
theorem FT_congr (d d':Nat→Bool) (R:List (Nat × AV)) (k:Nat):∀ (acc:List En),(∀ e∈acc,(∃ p∈e.ps,p.1=k)→d e.j=d' e.j)→lk (FT acc d++R) k=lk (FT acc d'++R) k
  | [],_=>rfl
  | e::acc,h=>by
    have ih:=FT_congr d d' R k acc fun x hx=>h x (by simp [hx]);simp only [FT,List.flatMap_cons,List.append_assoc] at ih ⊢;by_cases hk:∃ p∈e.ps,p.1=k
    · rw [h e (by simp) hk];exact lk_pre _ ih
    · have hn:∀ p∈e.ps,p.1 ≠ k:=fun p hp e=>hk ⟨p,hp,e⟩;have e1:∀ b:Bool,∀ y∈(if b=true then e.ps else []),y.1 ≠ k:=by
        intro b y hy;split at hy
        · exact hn y hy
        · cases hy
      rw [lk_skip (e1 _),lk_skip (e1 _)];exact ih
theorem FH_congr (d d':Nat→Bool) (R:List (Nat × Blk)) (k:Nat):∀ (acc:List En),(∀ e∈acc,(∃ p∈e.ef,p.1=k)→d e.j=d' e.j)→lk (FH acc d++R) k=lk (FH acc d'++R) k
  | [],_=>rfl
  | e::acc,h=>by
    have ih:=FH_congr d d' R k acc fun x hx=>h x (by simp [hx]);simp only [FH,List.flatMap_cons,List.append_assoc] at ih ⊢;by_cases hk:∃ p∈e.ef,p.1=k
    · rw [h e (by simp) hk];exact lk_pre _ ih
    · have hn:∀ p∈e.ef,p.1 ≠ k:=fun p hp e=>hk ⟨p,hp,e⟩;have e1:∀ b:Bool,∀ y∈(if b=true then e.ef else []),y.1 ≠ k:=by
        intro b y hy;split at hy
        · exact hn y hy
        · cases hy
      rw [lk_skip (e1 _),lk_skip (e1 _)];exact ih
theorem FT_app (a b:List En) (d:Nat→Bool):FT (a++b) d=FT a d++FT b d:=by simp [FT]
theorem FH_app (a b:List En) (d:Nat→Bool):FH (a++b) d=FH a d++FH b d:=by simp [FH]
theorem FT_mem {acc:List En} {d:Nat→Bool} {x:Nat × AV} (h:x∈FT acc d):∃ e∈acc,d e.j=true∧x∈e.ps:=by
  simp only [FT,List.mem_flatMap] at h;obtain ⟨e,he,hx⟩:=h;split at hx
  · rename_i hd;exact ⟨e,he,hd,hx⟩
  · cases hx
theorem FH_mem {acc:List En} {d:Nat→Bool} {x:Nat × Blk} (h:x∈FH acc d):∃ e∈acc,d e.j=true∧x∈e.ef:=by
  simp only [FH,List.mem_flatMap] at h;obtain ⟨e,he,hx⟩:=h;split at hx
  · rename_i hd;exact ⟨e,he,hd,hx⟩
  · cases hx
section
variable {P:Program} {ty:Ty} {X:Cx} {σ:Sg}
theorem evG_congr {gd:Nat→Option Tmp} {H:List (Nat × Blk)} {fr:Nat} {tm tm':List (Nat × AV)} {o:Oper} (h:∀ t∈nm gd o,gt tm t=gt tm' t):evG ty σ gd H fr tm o=evG ty σ gd H fr tm' o:=by
  have hx:evX ty σ H fr (opnd tm) o.op=evX ty σ H fr (opnd tm') o.op:=evX_congr o.op fun x hx=>by
    cases x with
    | tmp t=>exact h t (by simp only [nm,List.mem_append,List.mem_filterMap];exact .inl ⟨.tmp t,hx,rfl⟩)
    | _=>rfl
  unfold evG;cases hg:o.guard with
  | none=>exact hx
  | some p =>
    obtain ⟨j,want⟩:=p;simp only
    cases hd:gd j with
    | none=>rfl
    | some d =>
      simp only
      have:gt tm d=gt tm' d:=h d (by simp only [nm,hg,hd,List.mem_append];exact .inr (by simp));rw [this,hx]
theorem evG_mono {gd:Nat→Option Tmp} {H H':List (Nat × Blk)} {fr:Nat} {tm:List (Nat × AV)} {o:Oper} (hA:Ag H H'∨blind o.op=true) {out:Out} (h:evG ty σ gd H fr tm o=some out):evG ty σ gd H' fr tm o=some out:=by
  have key:∀ {out:Out},evX ty σ H fr (opnd tm) o.op=some out→evX ty σ H' fr (opnd tm) o.op=some out:=by
    intro out h;rcases hA with hA | hA
    · exact evX_mono hA h
    · rw [← evX_blind (H:=H) hA];exact h
  unfold evG at h ⊢;split at h
  · exact key h
  · split at h
    · rename_i d hd;try simp only [hd]
      split at h
      · rename_i c hc;try simp only [hc]
        split at h
        · rename_i v vc hx;rw [key hx];exact h
        · rename_i v e vc hne hx;rw [key hx];cases e with
          | nil=>exact absurd rfl hne
          | cons x e=>exact h
        · rename_i hx;split at h
          · rename_i hb;rw [evX_blind (H:=H) (H':=H') hb] at hx;rw [hx];simp only [if_pos hb];exact h
          · cases h
      · cases h
    · cases h
def Good (ty:Ty) (σ:Sg) (ops:Array Oper) (tbl:List (List Nat)) (nb:List Nat) (H0:List (Nat × Blk)) (tm0:List (Nat × AV)) (ctr sz:Nat):List En→Prop
  | []=>True
  | e::acc=>e.j=acc.length∧(∃ o out,ops[e.j]? = some o∧evG ty σ (fun j=>(ops[j]?).bind (·.dst)) (FH acc (fun i=>inL i (tbl.getD e.j []))++H0) (ctr+8*e.j) (FT acc (fun _=>true)++tm0) o=some out ∧
      e.ps=putT o.dst out.v []∧e.ef=out.eff∧dOK o.dst sz=true∧keyOK tbl nb ctr e.j out.eff=true∧out.vc)∧Good ty σ ops tbl nb H0 tm0 ctr sz acc
def neE (acc:List En):List (Nat × List (Nat × Blk)):=acc.filterMap fun e=>match e.ef with | []=>none | ef=>some (e.j,ef)
theorem visH_neE (tbl:List (List Nat)) (j:Nat):∀ acc:List En,visH tbl j (neE acc)=FH acc (fun i=>inL i (tbl.getD j []))
  | []=>rfl
  | e::acc=>by
    have ih:=visH_neE tbl j acc;simp only [neE,List.filterMap_cons,FH,List.flatMap_cons] at ih ⊢;cases he:e.ef with
    | nil=>simp only;rw [ih];simp
    | cons x r =>
      simp only [visH,ih];split <;> simp
theorem allH_neE:∀ acc:List En,allH (neE acc)=FH acc (fun _=>true)
  | []=>rfl
  | e::acc=>by
    have ih:=allH_neE acc;simp only [neE,List.filterMap_cons,FH,List.flatMap_cons] at ih ⊢;cases he:e.ef with
    | nil=>simp only;rw [ih];simp
    | cons x r =>
      simp only [allH,ih];simp
theorem addE_neE (e:En) (acc:List En):addE e.j e.ef (neE acc)=neE (e::acc):=by
  simp only [neE,List.filterMap_cons,addE];cases e.ef <;> rfl
theorem putT_app (d:Option Tmp) (v:AV) (tm:List (Nat × AV)):putT d v tm=putT d v []++tm:=by cases d <;> rfl
theorem evD_good {ops:Array Oper} {tbl:List (List Nat)} {nb:List Nat} {H0:List (Nat × Blk)} {tm0:List (Nat × AV)} {ctr sz:Nat}:∀ (l:List Oper) (acc:List En) (tm':List (Nat × AV)) (he':List (Nat × List (Nat × Blk))) (vc:Prop),Good ty σ ops tbl nb H0 tm0 ctr sz acc→(∀ i,l[i]? = ops[acc.length+i]?) →
    evD ty σ (fun j=>(ops[j]?).bind (·.dst)) tbl nb H0 ctr sz l acc.length (FT acc (fun _=>true)++tm0) (neE acc)=some (tm',he',vc)→vc → ∃ acc',Good ty σ ops tbl nb H0 tm0 ctr sz acc'∧acc'.length=acc.length+l.length∧tm'=FT acc' (fun _=>true)++tm0∧he'=neE acc'
  | [],acc,tm',he',vc,hG,_,h,_=>by
    simp only [evD,Option.some.injEq,Prod.mk.injEq] at h;obtain ⟨rfl,rfl,_⟩:=h;exact ⟨acc,hG,rfl,rfl,rfl⟩
  | o::r,acc,tm',he',vc,hG,hl,h,hvc=>by
    simp only [evD] at h;split at h
    · rename_i out hout;split at h
      · rename_i tm2 he2 vc2 h2;simp only [Option.some.injEq,Prod.mk.injEq] at h;obtain ⟨rfl,rfl,rfl⟩:=h;obtain ⟨v1,v2,v3,v4⟩:=hvc;have ho:ops[acc.length]? = some o:=by have:=hl 0;simpa using this.symm
        rw [visH_neE] at hout;let e:En:=⟨acc.length,putT o.dst out.v [],out.eff⟩
        have hG':Good ty σ ops tbl nb H0 tm0 ctr sz (e::acc):=⟨rfl,⟨o,out,ho,hout,rfl,rfl,v1,v2,v3⟩,hG⟩;have e1:putT o.dst out.v (FT acc (fun _=>true)++tm0)=FT (e::acc) (fun _=>true)++tm0:=by
          rw [putT_app];simp [FT,e]
        rw [e1,show addE acc.length out.eff (neE acc)=neE (e::acc) from addE_neE e acc] at h2
        obtain ⟨acc',q1,q2,q3,q4⟩:=evD_good r (e::acc) tm2 he2 vc2 hG' (fun i=>by
          have:=hl (i+1);simp only [List.getElem?_cons_succ] at this;rw [this,List.length_cons,show acc.length+(i+1)=acc.length+1+i by omega]) h2 v4
        exact ⟨acc',q1,by rw [q2];simp;omega,q3,q4⟩
      · cases h
    · cases h
theorem Good.split {ops:Array Oper} {tbl:List (List Nat)} {nb:List Nat} {H0:List (Nat × Blk)} {tm0:List (Nat × AV)} {ctr sz:Nat}:∀ {acc:List En},Good ty σ ops tbl nb H0 tm0 ctr sz acc → ∀ {j:Nat},j<acc.length →
    ∃ pre e acc',acc=pre++e::acc'∧e.j=j∧Good ty σ ops tbl nb H0 tm0 ctr sz (e::acc')∧(∀ x∈pre,j<x.j)∧(∀ x∈acc',x.j<j)
  | [],_,j,hj=>by simp at hj
  | e::acc,hG,j,hj=>by
    have hlt:∀ {acc:List En},Good ty σ ops tbl nb H0 tm0 ctr sz acc → ∀ x∈acc,x.j<acc.length:=by
      intro acc;induction acc with
      | nil=>intro _ x hx;cases hx
      | cons y acc ih =>
        intro hG x hx;rcases List.mem_cons.1 hx with rfl | hx
        · have:=hG.1;simp;omega
        · have:=ih hG.2.2 x hx;simp;omega
    by_cases he:j=acc.length
    · exact ⟨[],e,acc,rfl,by rw [hG.1,he],hG,(fun x hx=>absurd hx List.not_mem_nil),(fun x hx=>by rw [he];exact hlt hG.2.2 x hx)⟩
    · have hj':j<acc.length:=by simp at hj;omega
      obtain ⟨pre,e',acc',h1,h2,h3,h4,h5⟩:=Good.split hG.2.2 hj';refine ⟨e::pre,e',acc',by rw [h1];rfl,h2,h3,fun x hx=>?_,h5⟩;rcases List.mem_cons.1 hx with rfl | hx
      · rw [hG.1];exact hj'
      · exact h4 x hx
theorem Good.at_ {ops:Array Oper} {tbl:List (List Nat)} {nb:List Nat} {H0:List (Nat × Blk)} {tm0:List (Nat × AV)} {ctr sz:Nat} {acc:List En} (hG:Good ty σ ops tbl nb H0 tm0 ctr sz acc) {e:En} (he:e∈acc) :
    e.j<acc.length ∧ ∃ (o:Oper) (out:Out),ops[e.j]? = some o∧e.ps=putT o.dst out.v []∧e.ef=out.eff∧keyOK tbl nb ctr e.j out.eff=true:=by
  induction acc with
  | nil=>cases he
  | cons y acc ih =>
    rcases List.mem_cons.1 he with rfl | he
    · obtain ⟨h1,⟨o,out,h2,h3,h4,h5,h6,h7,h8⟩,_⟩:=hG;exact ⟨by simp;omega,o,out,h2,h4,h5,h7⟩
    · obtain ⟨h1,h2⟩:=ih hG.2.2 he;exact ⟨by simp;omega,h2⟩
theorem wrB_at {tbl:List (List Nat)} {nb:List Nat} {ctr:Nat}:∀ {he:List (Nat × List (Nat × Blk))},wrB tbl nb ctr he=true → ∀ x∈he,(∃ y∈x.2,ownK ctr x.1 y.1=false) → ∀ j∈nb,j ≠ x.1→ordB tbl x.1 j=true
  | [],_,x,hx,_=>by cases hx
  | z::he,h,x,hx,hy=>by
    simp only [wrB,Bool.and_eq_true,Bool.or_eq_true] at h;rcases List.mem_cons.1 hx with rfl | hx
    · obtain ⟨y,h1,h2⟩:=hy;rcases h.1 with h3 | h3
      · have:=List.all_eq_true.1 h3 y h1;rw [h2] at this;cases this
      · intro j hj hne;have:=List.all_eq_true.1 h3 j hj;simp only [Bool.or_eq_true,beq_iff_eq] at this;exact this.resolve_left hne
    · exact wrB_at h.2 x hx hy
theorem neE_mem {acc:List En} {e:En} (he:e∈acc) {y:Nat × Blk} (hy:y∈e.ef):(e.j,e.ef)∈neE acc:=by
  simp only [neE,List.mem_filterMap];refine ⟨e,he,?_⟩;cases hq:e.ef with
  | nil=>rw [hq] at hy;cases hy
  | cons a b=>rfl
theorem ordB_iff {tbl:List (List Nat)} {i j:Nat}:ordB tbl i j=true ↔ i∈tbl.getD j []∨j∈tbl.getD i []:=by
  simp [ordB,inL_mem]
theorem countP_lt' {α:Type} {p q:α→Bool} (hpq:∀ x,q x=true→p x=true):∀ {l:List α} {x:α},x∈l→p x=true→q x=false→l.countP q<l.countP p
  | y::l,x,hx,h1,h2=>by
    have hle:l.countP q≤l.countP p:=List.countP_mono_left (l:=l) (p:=q) (q:=p) (fun x _ h=>hpq x h);rcases List.mem_cons.1 hx with rfl | hx
    · rw [List.countP_cons,List.countP_cons,h1,h2];simp;omega
    · have:=countP_lt' hpq hx h1 h2;rw [List.countP_cons,List.countP_cons];cases hq:q y with
      | true=>rw [hpq y hq];simp;omega
      | false=>cases p y <;> simp <;> omega
theorem drawn_ok (hT:TysOK P ty) (hσ:SgOK P σ) {ops:Array Oper} {Q:Exit→Act→World→Prop} {tbl:List (List Nat)} {nb:List Nat} (hdr:drB ops tbl nb=true) {s:St} {tm':List (Nat × AV)} {he':List (Nat × List (Nat × Blk))} {vc:Prop}
    (hev:evD ty σ (fun j=>(ops[j]?).bind (·.dst)) tbl nb s.H s.ctr s.sz ops.toList 0 s.tm []=some (tm',he',vc)) (hvc:vc) (hwr:wrB tbl nb s.ctr he'=true)
    (hQ:∀ a w,Rel X ⟨tm',allH he'++s.H,s.ctr+8*ops.size,s.sz⟩ a w→Q .normal a w) {a:Act} {w:World} (hR:Rel X s a w) :
    wpAny P .any ops Q ops.size (Array.replicate ops.size false) a w:=by
  obtain ⟨accN,hG,hlen,rfl,rfl⟩:=evD_good (tm0:=s.tm) (H0:=s.H) ops.toList [] tm' he' vc trivial (fun i=>by simp) hev hvc;have hlen:accN.length=ops.size:=by simpa using hlen
  obtain ⟨S0,m0,hM0,ht0⟩:=hR.mem;have hdr':=hdr;simp only [drB,List.all_eq_true,Bool.and_eq_true] at hdr';have hz:∀ {j:Nat} {o:Oper},ops[j]? = some o→(o,j)∈ops.toList.zipIdx:=by
    intro j o ho;rw [List.mem_zipIdx_iff_getElem?];simpa using ho
  have D1:∀ (j:Nat) (o:Oper),ops[j]? = some o → ∀ e∈o.after,Region.binds .any e=true→e.on<j:=fun j o ho e he hb=>by
    have:=(hdr' (o,j) (hz ho)).1.1.1 e (by simpa using he);simpa [hb] using this
  have D2:∀ (j:Nat) (o:Oper),ops[j]? = some o → ∀ i∈tbl.getD j [],∃ e∈o.after,Region.binds .any e=true∧(e.on=i∨i∈tbl.getD e.on []):=fun j o ho i hi=>by
    have:=((hdr' (o,j) (hz ho)).1.1.2 i hi).1;simp only [List.any_eq_true,Bool.and_eq_true,Bool.or_eq_true,beq_iff_eq,inL_mem] at this;obtain ⟨e,h1,h2,h3⟩:=this;exact ⟨e,by simpa using h1,h2,h3⟩
  have D3:∀ (j:Nat) (o:Oper),ops[j]? = some o → ∀ i∈tbl.getD j [],∀ i'∈tbl.getD i [],i'∈tbl.getD j []:=fun j o ho i hi i' hi'=>by
    have:=((hdr' (o,j) (hz ho)).1.1.2 i hi).2 i' hi';exact inL_mem.1 this
  have D4:∀ (j:Nat) (o:Oper),ops[j]? = some o→j∈nb∨blind o.op=true:=fun j o ho=>by
    have:=(hdr' (o,j) (hz ho)).1.2;simpa [inL_mem] using this
  have D5:∀ (j:Nat) (o:Oper),ops[j]? = some o → ∀ (i:Nat) (o':Oper) (t:Tmp),ops[i]? = some o'→i ≠ j→o'.dst=some t→(t∈nm (fun j=>(ops[j]?).bind (·.dst)) o∨o.dst=some t)→i∈tbl.getD j []∨j∈tbl.getD i []:=fun j o ho i o' t ho' hne hd ht=>by
    have:=(hdr' (o,j) (hz ho)).2 (o',i) (hz ho');simp only [Bool.or_eq_true,beq_iff_eq,hd,Bool.not_eq_true',Bool.or_eq_false_iff] at this;rcases this with h | h | h
    · exact absurd h hne
    · exfalso;rcases ht with ht | ht
      · rw [inL_mem.2 ht] at h;simp at h
      · rw [ht] at h;simp at h
    · exact ordB_iff.1 h
  have hopsN:∀ j,j<ops.size → ∃ o,ops[j]? = some o:=fun j hj=>⟨_,Array.getElem?_eq_getElem hj⟩;have P2:∀ (j:Nat) (o:Oper),ops[j]? = some o → ∀ i∈tbl.getD j [],i<j:=by
    intro j;induction j using Nat.strongRecOn with
    | _ j ih =>
      intro o ho i hi;obtain ⟨e,h1,hb1,h3⟩:=D2 j o ho i hi;have hlt:=D1 j o ho e h1 hb1;rcases h3 with h3 | h3
      · omega
      · obtain ⟨o',ho'⟩:=hopsN e.on (by have:=(Array.getElem?_eq_some_iff.1 ho).1;omega);have:=ih e.on hlt o' ho' i h3;omega
  have P1:∀ (d:Nat→Bool),(∀ (j:Nat) (oj:Oper) (e:Edge),d j=true→ops[j]? = some oj→e∈oj.after→Region.binds .any e=true→d e.on=true) → ∀ (j:Nat) (o:Oper),ops[j]? = some o→(∀ e∈o.after,Region.binds .any e=true→d e.on=true) → ∀ i∈tbl.getD j [],d i=true:=by
    intro d hcl j;induction j using Nat.strongRecOn with
    | _ j ih =>
      intro o ho hpre i hi;obtain ⟨e,h1,h2,h3⟩:=D2 j o ho i hi;have hlt:=D1 j o ho e h1 h2;have hd:=hpre e h1 h2;rcases h3 with h3 | h3
      · rw [← h3];exact hd
      · obtain ⟨o',ho'⟩:=hopsN e.on (by have:=(Array.getElem?_eq_some_iff.1 ho).1;omega);exact ih e.on hlt o' ho' (fun e' he' hb=>hcl e.on o' e' hd ho' he' hb) i h3
  have kfact:∀ e∈accN,∀ x∈e.ef,ownK s.ctr e.j x.1=true∨(e.j∈nb∧(x.1<s.ctr∨(x.1-s.ctr) / 8∈tbl.getD e.j [])):=by
    intro e he x hx;obtain ⟨_,o,out,_,_,h3,h4⟩:=hG.at_ he;rw [h3] at hx;have:=List.all_eq_true.1 h4 x hx;simpa [inL_mem] using this
  have wfact:∀ e∈accN,∀ x∈e.ef,ownK s.ctr e.j x.1=false → ∀ j∈nb,j ≠ e.j→e.j∈tbl.getD j []∨j∈tbl.getD e.j []:=by
    intro e he x hx ho j hj hne;exact ordB_iff.1 (wrB_at hwr (e.j,e.ef) (neE_mem he hx) ⟨x,hx,ho⟩ j hj hne)
  have opsOf:∀ e∈accN,∃ o,ops[e.j]? = some o:=fun e he=>by
    obtain ⟨_,o,_,h,_⟩:=hG.at_ he;exact ⟨o,h⟩
  let Inv:(Nat→Bool)→Act→World→Prop:=fun d a w=>a.tmps.size=s.sz∧a.defers=X.ex.df ∧ ∃ S m,Mem X (FH accN d++s.H) S m w∧TmR w S m (FT accN d++s.tm) a
  have hstep:∀ (d:Nat→Bool) (a:Act) (w:World) (j:Nat) (o:Oper),ops[j]? = some o→d j=false→(∀ e∈o.after,Region.binds .any e=true→d e.on=true) →
      (∀ (j:Nat) (oj:Oper) (e:Edge),d j=true→ops[j]? = some oj→e∈oj.after→Region.binds .any e=true→d e.on=true)→Inv d a w →
      ∀ K:Act→World→Prop,(∀ a' w',Inv (fun i=>i == j || d i) a' w'→K a' w')→if Region.wanted o (yielded ops a.tmps)=true then o.wp P a w K Q else K (a.put o.dst undef) w:=by
    intro d a w j o ho hdj hpre hcl hI K hK;obtain ⟨i1,i2,S,m,hM,ht⟩:=hI;have hj:j<accN.length:=by rw [hlen];exact (Array.getElem?_eq_some_iff.1 ho).1
    obtain ⟨pre,e,acc',hacc,hej,hGe,hpreg,hacclt⟩:=hG.split hj;obtain ⟨_,⟨o',out,ho',hout,hps,hef,hd1,hk1,hv1⟩,_⟩:=hGe;rw [hej] at ho' hout hk1;rw [ho] at ho';injection ho' with ho';subst ho';have hmem:e∈accN:=by rw [hacc];simp
    have hmem':∀ x∈acc',x∈accN:=fun x hx=>by rw [hacc];simp [hx]
    have hmemp:∀ x∈pre,x∈accN:=fun x hx=>by rw [hacc];simp [hx]
    have hd0:∀ i∈tbl.getD j [],d i=true:=P1 d hcl j o ho hpre;have hup:∀ (i:Nat) (oi:Oper),ops[i]? = some oi→d i=true→j ∉ tbl.getD i []:=fun i oi hoi hdi hji=>by
      have:=P1 d hcl i oi hoi (fun e he hb=>hcl i oi e hdi hoi he hb) j hji;rw [hdj] at this;cases this
    have psmem:∀ x∈accN,∀ t,(∃ p∈x.ps,p.1=t) → ∃ ox,ops[x.j]? = some ox∧ox.dst=some t:=by
      rintro x hx t ⟨p,hp,rfl⟩;obtain ⟨_,ox,outx,h2,h3,_⟩:=hG.at_ hx;rw [h3] at hp;refine ⟨ox,h2,?_⟩;cases hdx:ox.dst with
      | none=>rw [hdx] at hp;cases hp
      | some q=>rw [hdx] at hp;simp [putT] at hp;rw [hp]
    -- the slots
    have hT1:∀ t∈nm (fun j=>(ops[j]?).bind (·.dst)) o,gt (FT acc' (fun _=>true)++s.tm) t=gt (FT accN d++s.tm) t:=by
      intro t ht;unfold gt;congr 1
      have e1:lk (FT accN d++s.tm) t=lk (FT accN (fun i=>decide (i<j))++s.tm) t:=FT_congr _ _ _ _ _ fun x hx hk=>by
        obtain ⟨ox,hox,hdx⟩:=psmem x hx t hk;by_cases hxj:x.j=j
        · rw [hxj,hdj];simp
        · rcases D5 j o ho x.j ox t hox hxj hdx (.inl ht) with h | h
          · rw [hd0 _ h];have:=P2 j o ho _ h;simp [this]
          · have h1:=P2 _ ox hox _ h;have h2:d x.j=false:=by
              cases hq:d x.j with
              | false=>rfl
              | true=>exact absurd h (hup _ ox hox hq)
            rw [h2];simp;omega
      rw [e1,hacc,FT_app,List.append_assoc];refine Eq.trans ?_ (lk_skip (x:=FT pre fun i=>decide (i<j)) (fun p hp q=>?_)).symm
      · have e2:FT (e::acc') (fun i=>decide (i<j))=FT acc' (fun i=>decide (i<j)):=by simp [FT,hej]
        rw [e2];exact FT_congr _ _ _ _ _ fun x hx _=>by simp [hacclt x hx]
      · obtain ⟨x,hx,hdx,_⟩:=FT_mem hp;have:=hpreg x hx;simp at hdx;omega
    rw [evG_congr hT1] at hout;-- the blocks
    have hAg:Ag (FH acc' (fun i=>inL i (tbl.getD j []))++s.H) (FH accN d++s.H)∨blind o.op=true:=by
      rcases D4 j o ho with hnb | hb
      · left;intro k b hk;have e1:lk (FH accN (fun i=>inL i (tbl.getD j []))++s.H) k=some b:=by
          rw [hacc,FH_app,List.append_assoc,lk_skip (fun p hp q=>?_)]
          · have:inL e.j (tbl.getD j [])=false:=by
              cases hq:inL e.j (tbl.getD j []) with
              | false=>rfl
              | true=>have:=P2 j o ho _ (inL_mem.1 hq);omega
            simp only [FH,List.flatMap_cons,this,Bool.false_eq_true,if_false,List.nil_append];exact hk
          · obtain ⟨x,hx,hdx,_⟩:=FH_mem hp;have h1:=P2 j o ho _ (inL_mem.1 hdx);have:=hpreg x hx;omega
        rw [← e1];refine FH_congr _ _ _ _ _ fun x hx hkx=>?_;cases hq:inL x.j (tbl.getD j []) with
        | true=>exact hd0 _ (inL_mem.1 hq)
        | false =>
          cases hdx:d x.j with
          | false=>rfl
          | true =>
            exfalso;have hnp:x.j ∉ tbl.getD j []:=fun h=>by rw [inL_mem.2 h] at hq;cases hq
            obtain ⟨y,hy,rfl⟩:=hkx;obtain ⟨ox,hox⟩:=opsOf x hx;have hne:j ≠ x.j:=fun h=>by rw [← h,hdj] at hdx;cases hdx
            cases hown:ownK s.ctr x.j y.1 with
            | false =>
              rcases wfact x hx y hy hown j hnb hne with h | h
              · exact hnp h
              · exact hup _ ox hox hdx h
            | true =>
              simp only [ownK,Bool.and_eq_true,decide_eq_true_eq] at hown;have hnone:lk s.H y.1=none:=hR.kl _ (by omega);rw [lk_append,hnone] at e1;cases hfx:lk (FH accN (fun i=>inL i (tbl.getD j []))) y.1 with
              | none=>rw [hfx] at e1;cases e1
              | some b' =>
                obtain ⟨x',hx',hdx',hm'⟩:=FH_mem (lk_mem hfx);have hpx':=inL_mem.1 hdx';have hne':x'.j ≠ x.j:=fun h=>hnp (h ▸ hpx');rcases kfact x' hx' _ hm' with h | ⟨_,h | h⟩
                · simp only [ownK,Bool.and_eq_true,decide_eq_true_eq] at h;omega
                · simp only at h;omega
                · have:(y.1-s.ctr) / 8=x.j:=by omega
                  simp only [this] at h;exact hnp (D3 j o ho _ hpx' _ h)
      · exact .inr hb
    have hout':=evG_mono hAg hout;have hfr:∀ i,i<8→lk (FH accN d++s.H) (s.ctr+8*j+i)=none:=by
      intro i hi;rw [lk_append,lk_none_of fun x hx q=>?_]
      · exact hR.kl _ (by omega)
      · obtain ⟨y,hy,hdy,hm⟩:=FH_mem hx;obtain ⟨oy,hoy⟩:=opsOf y hy;have hne:y.j ≠ j:=fun h=>by rw [h,hdj] at hdy;cases hdy
        rcases kfact y hy x hm with h | ⟨_,h | h⟩
        · simp only [ownK,Bool.and_eq_true,decide_eq_true_eq] at h;omega
        · omega
        · have:(x.1-s.ctr) / 8=j:=by omega
          rw [this] at h;exact hup _ oy hoy hdy h
    refine evG_ok hT hσ hM ht hfr hout' hv1 fun v w' hL=>hK _ _ ?_;obtain ⟨S',m',q1,q2,q3⟩:=hL;have hTm:=put_tm (d:=o.dst) (ht.adv q1) (fun t ht=>by rw [i1];exact dOK_at hd1 t ht) q3;have hdisT:∀ x∈putT o.dst out.v [],∀ y∈FT pre d,x.1 ≠ y.1:=by
      intro x hx y hy q;obtain ⟨z,hz,hdz,hm⟩:=FT_mem hy;obtain ⟨oz,hoz,hdt⟩:=psmem z (hmemp z hz) y.1 ⟨y,hm,rfl⟩;have hgt:=hpreg z hz;have hod:o.dst=some y.1:=by
        cases hdo:o.dst with
        | none=>rw [hdo] at hx;cases hx
        | some t=>rw [hdo] at hx;simp [putT] at hx;rw [← q,hx]
      rcases D5 j o ho z.j oz y.1 hoz (by omega) hdt (.inr hod) with h | h
      · have:=P2 j o ho _ h;omega
      · exact hup _ oz hoz hdz h
    have hdisH:∀ x∈out.eff,∀ y∈FH pre d,x.1 ≠ y.1:=by
      intro x hx y hy q;obtain ⟨z,hz,hdz,hm⟩:=FH_mem hy;obtain ⟨oz,hoz⟩:=opsOf z (hmemp z hz);have hgt:=hpreg z hz;have hnotj:j ∉ tbl.getD z.j []:=hup _ oz hoz hdz;have hnotz:z.j ∉ tbl.getD j []:=fun h=>by have:=P2 j o ho _ h;omega
      rw [← hef] at hx;have hxk:=kfact e hmem x hx;have hyk:=kfact z (hmemp z hz) y hm;rw [hej] at hxk;cases hox:ownK s.ctr j x.1 with
      | true =>
        have hox':=hox;simp only [ownK,Bool.and_eq_true,decide_eq_true_eq] at hox';rcases hyk with h | ⟨_,h | h⟩
        · simp only [ownK,Bool.and_eq_true,decide_eq_true_eq] at h;omega
        · omega
        · have:(y.1-s.ctr) / 8=j:=by omega
          rw [this] at h;exact hnotj h
      | false =>
        rcases hxk with h | ⟨hjn,h⟩
        · rw [hox] at h;cases h
        · cases hoy:ownK s.ctr z.j y.1 with
          | false =>
            rcases wfact z (hmemp z hz) y hm hoy j hjn (by omega) with h' | h'
            · exact hnotz h'
            · exact hnotj h'
          | true =>
            simp only [ownK,Bool.and_eq_true,decide_eq_true_eq] at hoy;rcases h with h | h
            · omega
            · have:(x.1-s.ctr) / 8=z.j:=by omega
              rw [this] at h;exact hnotz h
    have hd':∀ (acc:List En),(∀ x∈acc,x.j ≠ j)→FT acc (fun i=>i == j || d i)=FT acc d∧FH acc (fun i=>i == j || d i)=FH acc d:=by
      intro acc hx;have:∀ x∈acc,(x.j == j || d x.j)=d x.j:=fun x hxm=>by have:=hx x hxm;simp [this]
      constructor
      · simp only [FT];exact flatMap_cg fun x hxm=>by simp only [this x hxm]
      · simp only [FH];exact flatMap_cg fun x hxm=>by simp only [this x hxm]
    have hp1:=hd' pre fun x hx=>by have:=hpreg x hx;omega
    have hp2:=hd' acc' fun x hx=>by have:=hacclt x hx;omega
    refine ⟨by rw [put_size];exact i1,by rw [put_defers];exact i2,S',m',q2.congr fun k=>?_,fun t=>?_⟩
    · rw [hacc,FH_app,FH_app,hp1.2];simp only [FH,List.flatMap_cons,hej,hdj,Bool.false_eq_true,if_false,List.nil_append,BEq.rfl,Bool.true_or,if_true,List.append_assoc];rw [hef];have:=(hp2.2);simp only [FH] at this;rw [this];exact lk_swap _ _ _ _ hdisH
    · have h1:=hTm t;have h2:gt (putT o.dst out.v (FT accN d++s.tm)) t=gt (FT accN (fun i=>i == j || d i)++s.tm) t:=by
        unfold gt;congr 1
        rw [putT_app,hacc,FT_app,FT_app,hp1.1];simp only [FT,List.flatMap_cons,hej,hdj,Bool.false_eq_true,if_false,List.nil_append,BEq.rfl,Bool.true_or,if_true,List.append_assoc];rw [hps];have:=(hp2.1);simp only [FT] at this;rw [this];exact lk_swap _ _ _ _ hdisT
      rw [← h2];exact h1
  have hfin:∀ (d:Nat→Bool) (a:Act) (w:World),(∀ i,i<ops.size→d i=true)→Inv d a w→Q .normal a w:=by
    intro d a w hd hI;obtain ⟨i1,i2,S,m,hM,ht⟩:=hI;have hall:∀ x∈accN,d x.j=true:=fun x hx=>hd _ (by have:=(hG.at_ hx).1;omega);have e1:FT accN d=FT accN (fun _=>true):=flatMap_cg fun x hx=>by rw [hall x hx]
    have e2:FH accN d=FH accN (fun _=>true):=flatMap_cg fun x hx=>by rw [hall x hx]
    rw [e2] at hM;rw [e1] at ht;refine hQ a w ⟨i1,i2,fun k hk=>?_,S,m,?_,ht⟩
    · simp only at hk ⊢
      rw [allH_neE,lk_append,lk_none_of fun x hx q=>?_]
      · exact hR.kl _ (by omega)
      · obtain ⟨y,hy,_,hm⟩:=FH_mem hx;have hyl:=(hG.at_ hy).1;obtain ⟨oy,hoy⟩:=opsOf y hy;rcases kfact y hy x hm with h | ⟨_,h | h⟩
        · simp only [ownK,Bool.and_eq_true,decide_eq_true_eq] at h;omega
        · omega
        · have:=P2 _ oy hoy _ h;omega
    · simp only
      rw [allH_neE];exact hM
  have h0:Inv (fun i=>(Array.replicate ops.size false).getD i false) a w:=by
    have hf:∀ i,(Array.replicate ops.size false).getD i false=false:=by
      intro i;simp [Array.getD_eq_getD_getElem?,Array.getElem?_replicate];split <;> rfl
    have e1:FT accN (fun i=>(Array.replicate ops.size false).getD i false)=[]:=by simp only [FT,hf];simp
    have e2:FH accN (fun i=>(Array.replicate ops.size false).getD i false)=[]:=by simp only [FH,hf];simp
    refine ⟨hR.size,hR.defers,S0,m0,?_,?_⟩
    · rw [e2];exact hM0
    · rw [e1];exact ht0
  -- the run over all orders
  have hloop:∀ (fuel:Nat) (listed:Array Bool) (a:Act) (w:World),listed.size=ops.size→(List.range ops.size).countP (fun i=>!(listed.getD i false))≤fuel →
      (∀ (j:Nat) (oj:Oper) (e:Edge),listed.getD j false=true→ops[j]? = some oj→e∈oj.after→Region.binds .any e=true→listed.getD e.on false=true) →
      Inv (fun i=>listed.getD i false) a w→wpAny P .any ops Q fuel listed a w:=by
    have hall:∀ listed:Array Bool,listed.size=ops.size→Region.ready .any ops listed=[] → ∀ i,i<ops.size→listed.getD i false=true:=by
      intro listed hsz hr i;induction i using Nat.strongRecOn with
      | _ i ih =>
        intro hi;cases hd:listed.getD i false with
        | true=>rfl
        | false =>
          exfalso;obtain ⟨o,ho⟩:=hopsN i hi;have:i∈Region.ready .any ops listed:=by
            refine mem_ready.2 ⟨?_,o,ho,fun e hee hbe=>ih e.on (D1 i o ho e hee hbe) (by have:=D1 i o ho e hee hbe;omega)⟩;have hlt:i<listed.size:=by omega
            simpa [hlt] using hd
          rw [hr] at this;cases this
    intro fuel;induction fuel with
    | zero =>
      intro listed a w hsz hu _ hI;have hl:∀ i,i<ops.size→listed.getD i false=true:=by
        intro i hi;cases hd:listed.getD i false with
        | true=>rfl
        | false =>
          exfalso;have h0:0<(List.range ops.size).countP (fun i=>!(listed.getD i false)):=List.countP_pos_iff.2 ⟨i,List.mem_range.2 hi,by simp [hd]⟩;omega
      refine ⟨?_,hfin _ a w hl hI⟩;apply List.eq_nil_iff_forall_not_mem.2
      intro j hj;obtain ⟨h1,o,ho,_⟩:=mem_ready.1 hj;have hjl:j<ops.size:=(Array.getElem?_eq_some_iff.1 ho).1;have h2:=hl j hjl;have hlt:j<listed.size:=by omega
      simp [hlt] at h1 h2;rw [h1] at h2;cases h2
    | succ fuel ih =>
      intro listed a w hsz hu hcl hI;refine ⟨fun h0=>hfin _ a w (hall listed hsz h0) hI,fun i hi=>?_⟩;obtain ⟨h1,o,ho,hpre⟩:=mem_ready.1 hi;have hil:i<ops.size:=(Array.getElem?_eq_some_iff.1 ho).1;have hlt:i<listed.size:=by omega
      have hdi:listed.getD i false=false:=by simpa [hlt] using h1
      have hset:∀ j,(listed.setIfInBounds i true).getD j false=(j == i || listed.getD j false):=by
        intro j;by_cases hji:j=i
        · subst hji;simp [hlt]
        · rw [getD_set_ne false (fun e=>hji e.symm)];simp [hji]
      have hcont:∀ a' w',Inv (fun j=>j == i || listed.getD j false) a' w'→wpAny P .any ops Q fuel (listed.setIfInBounds i true) a' w':=by
        intro a' w' hI';refine ih _ a' w' (by simpa using hsz) ?_ ?_ ?_
        · have:(List.range ops.size).countP (fun j=>!((listed.setIfInBounds i true).getD j false))<(List.range ops.size).countP (fun j=>!(listed.getD j false)):=by
            refine countP_lt' (fun x hx=>?_) (List.mem_range.2 hil) (by simp [hdi]) (by rw [hset];simp);rw [hset] at hx;simp only [Bool.not_eq_true',Bool.or_eq_false_iff] at hx ⊢;exact hx.2
          omega
        · intro j oj e hj hoj he hb;rw [hset] at hj ⊢;simp only [Bool.or_eq_true,beq_iff_eq] at hj ⊢;rcases hj with rfl | hj
          · rw [ho] at hoj;injection hoj with hoj;subst hoj;exact .inr (hpre e he hb)
          · exact .inr (hcl j oj e hj hoj he hb)
        · have:(fun j=>(listed.setIfInBounds i true).getD j false)=fun j=>(j == i || listed.getD j false):=funext hset;rw [this];exact hI'
      have hs:=hstep _ a w i o ho hdi hpre hcl hI _ hcont;unfold wpOp;simp only [ho];split
      · rename_i hw;rw [if_pos hw] at hs;exact .inl hs
      · rename_i hw;rw [if_neg hw] at hs;exact hs
  refine hloop ops.size _ a w (by simp) (Nat.le_trans List.countP_le_length (by simp)) (fun j oj e hj hoj _ _=>?_) h0;exfalso;have hjl:j<ops.size:=(Array.getElem?_eq_some_iff.1 hoj).1;simp [hjl] at hj
def EvD (ty:Ty) (σ:Sg) (gd:Nat→Option Tmp) (tbl:List (List Nat)) (nb:List Nat) (l:List Oper) (n:Nat) (s:St) (K:St→Prop):Prop :=
  match evD ty σ gd tbl nb s.H s.ctr s.sz l 0 s.tm [] with
  | some (tm',he',vc)=>wrB tbl nb s.ctr he'=true∧vc∧K ⟨tm',allH he'++s.H,s.ctr+8*n,s.sz⟩
  | none=>False
theorem Rel.drew {s:St} {a:Act} {w:World} (h:Rel X s a w):Rel X s a w.drew:=by
  obtain ⟨S,m,hM,ht⟩:=h.mem;exact ⟨h.size,h.defers,h.kl,S,m,hM.drew,fun t=>(ht t).drew⟩
theorem WA.drawn (hm:P.follows .mixedOrders=true) (hT:TysOK P ty) (hσ:SgOK P σ) {Q:Exit→Act→World→Prop} {s:St} {id:Nat} {l:List Oper} {tbl:List (List Nat)} {nb:List Nat} (hdr:drB l.toArray tbl nb=true)
    (h:∀ K:St→Prop,(∀ s',(∀ a w,Rel X s' a w→Q .normal a w)→K s')→EvD ty σ (fun j=>(l[j]?).bind (·.dst)) tbl nb l l.length s K):WA P X (.region id l.toArray true) Q s:=by
  intro a w hR;have h1:=h (fun s'=>∀ a w,Rel X s' a w→Q .normal a w) (fun _ h=>h);unfold EvD at h1;split at h1
  · rename_i tm' he' vc he;obtain ⟨q1,q2,q3⟩:=h1;refine wp_region_any hm (drawn_ok (X:=X) (s:=s) hT hσ hdr (vc:=vc) (tm':=tm') (he':=he') ?_ q2 q1 (by simpa using q3) (Rel.drew hR));rw [← he];congr 1
    funext j
    simp
  · exact h1.elim
theorem WA.drawnK (hm:P.follows .mixedOrders=true) (hT:TysOK P ty) (hσ:SgOK P σ) {Q:Exit→Act→World→Prop} {s:St} {id:Nat} {l:List Oper} {y:Code} {tbl:List (List Nat)} {nb:List Nat} (hdr:drB l.toArray tbl nb=true)
    (h:∀ K:St→Prop,(∀ s',WA P X y Q s'→K s')→EvD ty σ (fun j=>(l[j]?).bind (·.dst)) tbl nb l l.length s K):WA P X (.seq (.region id l.toArray true) y) Q s :=
  WA.seq (WA.drawn hm hT hσ hdr fun K hK=>h K fun s' hs=>hK s' hs)
end
end Go.TravelAbs
namespace Go.TravelAbs
open Go.RowKit Go.TravelBase
def ExR (ty:Ty) (s:St) (rv:List ResultVar) (xs ls':List AV):Prop :=
  match resA ty s.H s.tm rv with
  | some (ys,v0) =>
    match fzL s.H ys xs with
    | some (zs,e,v1)=>v0∧v1∧frs (e++s.H) zs xs∧(frks zs xs).Nodup∧lnt (e++s.H) ls' 0
    | none=>False
  | none=>False
section
variable {P:Program} {ty:Ty} {X:Cx} {H:List (Nat × Blk)} {S:CSet} {m:RMap} {w:World} {σ:Sg} {Q:Exit→Act→World→Prop}
theorem ExR.out (hT:TysOK P ty) {s:St} {fn:Func} {rv:List ResultVar} {xs ls':List AV} (hrv:fn.results.toList=rv) (h:ExR ty s rv xs ls') (hnl:X.nl=ls'.length∨ls'=[]) (h1000:X.nl<1000) (hsg:xs.length=1→isT (xs.getD 0 .any)=false) {a:Act} {w:World} (hR:Rel X s a w) :
    RetP P X fn (mkR xs) ls' a w:=by
  unfold ExR at h;split at h
  · rename_i ys v0 h1;split at h
    · rename_i zs e v1 h2;obtain ⟨q1,q2,q3,q4,q5⟩:=h;obtain ⟨S,m,hM,ht⟩:=hR.mem;have key:∀ w',(∃ S m,Mem X.plain s.H S m w'∧TmR w' S m s.tm a)→RetO P X fn (mkR xs) ls' a w':=fun w' hw=>exit_ok hT hw (by rw [hrv];exact h1) q1 h2 q2 q3 q4 q5 hnl h1000 (fun x hx=>by subst hx;simpa using hsg rfl);rcases X.ed with h0 | ⟨D,hD,hm,hle⟩
      · exact .inl ⟨hR.defers.trans h0,key w ⟨S,m,hM.plain,ht⟩⟩
      · have hk:=hM.frm.mark D _ hm;have hM2:=hM.plain.putO hk rfl (o':=.deferred none) rfl (fun x q=>q.elim) hle;exact .inr ⟨D,hR.defers.trans hD,hk,key _ ⟨S,m,hM2,fun t=>(ht t).mono (fun b o q=>⟨q,cell_putO hk rfl rfl _⟩) fun _ _ q=>q⟩⟩
    · exact h.elim
  · exact h.elim
theorem WA.retE (hT:TysOK P ty) {s:St} {fn:Func} {rv:List ResultVar} {xs ls':List AV} (hrv:fn.results.toList=rv) (hnl:X.nl=ls'.length) (h1000:ls'.length<1000) (hsg:xs.length=1→isT (xs.getD 0 .any)=false) (hQ:∀ a w,FQ P X fn (mkR xs) ls' .ret a w→Q .ret a w)
    (h:ExR ty s rv xs ls'):WA P X .ret Q s:=WA.ret fun a w hR=>hQ a w (ExR.out hT hrv h (.inl hnl) (by omega) hsg hR)
theorem WA.retG (hT:TysOK P ty) {s:St} {fn:Func} {rv:List ResultVar} {xs:List AV} (hrv:fn.results.toList=rv) {n:Nat} (hnl:X.nl=n) (h1000:n<1000) (hsg:xs.length=1→isT (xs.getD 0 .any)=false) (hQ:∀ a w,FQ P X fn (mkR xs) [] .ret a w→Q .ret a w)
    (h:ExR ty s rv xs []):WA P X .ret Q s:=WA.ret fun a w hR=>hQ a w (ExR.out hT hrv h (.inr rfl) (by omega) hsg hR)
theorem wrap_byte (b:UInt8):IntKind.i64.wrap (b.toNat:Int)=b.toNat:=by
  have:=b.toNat_lt;rw [IntKind.wrap_i64];omega
theorem byte_lt (b:UInt8):(b.toNat<256)=True:=eq_true b.toNat_lt
theorem byte_lti (b:UInt8):((b.toNat:Int)<256)=True:=eq_true (by have:=b.toNat_lt;omega)
theorem byte_lei (b:UInt8):((b.toNat:Int)≤255)=True:=eq_true (by have:=b.toNat_lt;omega)
theorem u8_nn (x:Int):(0≤IntKind.u8.wrap x)=True:=eq_true (by rw [IntKind.wrap_u8];omega)
theorem u8_lt (x:Int):(IntKind.u8.wrap x<256)=True:=eq_true (by rw [IntKind.wrap_u8];omega)
theorem u8_le (x:Int):(IntKind.u8.wrap x≤255)=True:=eq_true (by rw [IntKind.wrap_u8];omega)
theorem wrap_u64 {x:Int} (h0:0≤x) (h1:x<18446744073709551616):IntKind.u64.wrap x=x:=by
  have:=IntKind.wrap_u64 x;omega
theorem Tr_lit {v:Value}:Tr (.lit v)=True:=eq_true (Tr.lit v)
theorem Tr_by {bs:List UInt8}:Tr (.by_ bs)=True:=eq_true (Tr.by_ bs)
def trA:List AV→Prop
  | []=>True
  | x::r=>Tr x∧trA r
def trE:List AV→Prop
  | []=>True
  | x::r=>trA x.cl∧trE r
theorem trA_at:∀ {l:List AV},trA l → ∀ x∈l,Tr x
  | [],_,x,hx=>by cases hx
  | y::r,h,x,hx=>by
    rcases List.mem_cons.1 hx with rfl | hx
    · exact h.1
    · exact trA_at h.2 x hx
theorem trE_at:∀ {l:List AV},trE l → ∀ x∈l,∀ y∈x.cl,Tr y
  | [],_,x,hx=>by cases hx
  | z::r,h,x,hx=>by
    rcases List.mem_cons.1 hx with rfl | hx
    · exact trA_at h.1
    · exact trE_at h.2 x hx
theorem trA_nil:trA []=True:=eq_true trivial
theorem trA_cons (x:AV) (r:List AV):trA (x::r)=(Tr x∧trA r):=propext ⟨fun h=>h,fun h=>h⟩
theorem trE_nil:trE []=True:=eq_true trivial
theorem trE_cons (x:AV) (r:List AV):trE (x::r)=(trA x.cl∧trE r):=propext ⟨fun h=>h,fun h=>h⟩
theorem Tr_li {es:Nat} {xs:List AV} (h:trE xs):Tr (.li es xs)=True:=eq_true (Tr.li (trE_at h))
theorem TrC_by {bs:List UInt8}:TrC (.by_ bs)=True:=eq_true (TrC.by_ bs)
theorem TrC_lie {es:Nat} {xs:List AV} (h:trE xs):TrC (.li es xs)=True:=eq_true (TrC.li (trE_at h))
theorem Tr_agg {xs:List AV} (h:∀ x∈xs,Tr x):Tr (.agg xs)=True:=eq_true (Tr.agg h)
theorem Tr_nil {es:Nat}:Tr (.li es [])=True:=eq_true (Tr.li fun x hx=>absurd hx (by simp))
end
end Go.TravelAbs
namespace Go.TravelAbs
open Go.RowKit Go.TravelBase
def rnC (ρ:Nat→Nat) (H:List (Nat × Blk)) (y0 y:AV):Prop :=
  match y with
  | .any=>True
  | .sl k es i n=>y0 = .sl (ρ k) es i n∧(lk H k).isSome=true
  | .ptr k i off=>y0 = .ptr (ρ k) i off∧(lk H k).isSome=true
  | y=>y0=y∧Tr y
theorem rnC_ok {ρ:Nat→Nat} {H:List (Nat × Blk)} {y0 y:AV} (h:rnC ρ H y0 y):Rn ρ H y0 y:=by
  unfold rnC at h;split at h
  · exact .any
  · obtain ⟨rfl,h⟩:=h;exact .sl rfl h
  · obtain ⟨rfl,h⟩:=h;exact .ptr rfl h
  · obtain ⟨rfl,h⟩:=h;exact .tr h
def kltL (c:Nat):List (Nat × Blk)→Prop
  | []=>True
  | x::r=>x.1<c∧kltL c r
def lntL (ρ:Nat→Nat) (H:List (Nat × Blk)):Nat→Prop
  | 0=>True
  | n+1=>(ρ n=n∧(lk H n).isSome=true)∧lntL ρ H n
def ninL (ρ:Nat→Nat) (k:Nat):List (Nat × Blk)→Prop
  | []=>True
  | x::r=>ρ k ≠ ρ x.1∧ninL ρ k r
def injL (ρ:Nat→Nat):List (Nat × Blk)→Prop
  | []=>True
  | x::r=>ninL ρ x.1 r∧injL ρ r
def rnL (ρ:Nat→Nat) (H:List (Nat × Blk)):List AV→List AV→Prop
  | [],ys=>ys=[]
  | x::r,ys =>
    match ys with
    | []=>False
    | y::s=>rnC ρ H x y∧rnL ρ H r s
def rnE (ρ:Nat→Nat) (H:List (Nat × Blk)):List AV→List AV→Prop
  | [],ys=>ys=[]
  | x::r,ys =>
    match ys with
    | []=>False
    | y::s=>rnL ρ H x.cl y.cl∧rnE ρ H r s
def rnCC (ρ:Nat→Nat) (H:List (Nat × Blk)) (c0 c:AV):Prop :=
  match c0 with
  | .li es0 xs0 =>
    match c with
    | .li es xs=>es0=es∧rnE ρ H xs0 xs
    | _=>False
  | _=>False
def rbC (ρ:Nat→Nat) (H:List (Nat × Blk)) (o:Option Blk) (b:Blk):Prop :=
  match o with
  | some b0=>b0.mode=b.mode∧b0.ln=b.ln∧((b0.c=b.c∧TrC b.c)∨rnCC ρ H b0.c b.c)
  | none=>False
def blkL (ρ:Nat→Nat) (H0 H:List (Nat × Blk)):List (Nat × Blk)→Prop
  | []=>True
  | x::r=>rbC ρ H (lk H0 (ρ x.1)) x.2∧blkL ρ H0 H r
theorem rnL_at {ρ:Nat→Nat} {H:List (Nat × Blk)}:∀ {xs ys:List AV},rnL ρ H xs ys→xs.length=ys.length ∧ ∀ (j:Nat) (x y:AV),xs[j]? = some x→ys[j]? = some y→Rn ρ H x y
  | [],ys,h=>by
    simp only [rnL] at h;subst h;exact ⟨rfl,fun j x y hx=>absurd hx (by simp)⟩
  | x::r,[],h=>h.elim
  | x::r,y::s,h=>by
    obtain ⟨h1,h2⟩:=rnL_at (xs:=r) (ys:=s) h.2;refine ⟨by simp [h1],fun j x' y' hx hy=>?_⟩;match j,hx,hy with
    | 0,hx,hy =>
      simp only [List.getElem?_cons_zero,Option.some.injEq] at hx hy;subst hx hy;exact rnC_ok h.1
    | j+1,hx,hy=>exact h2 j x' y' (by simpa using hx) (by simpa using hy)
theorem rnE_at {ρ:Nat→Nat} {H:List (Nat × Blk)}:∀ {xs ys:List AV},rnE ρ H xs ys→xs.length=ys.length ∧ ∀ (j:Nat) (x y:AV),xs[j]? = some x→ys[j]? = some y→rnL ρ H x.cl y.cl
  | [],ys,h=>by
    simp only [rnE] at h;subst h;exact ⟨rfl,fun j x y hx=>absurd hx (by simp)⟩
  | x::r,[],h=>h.elim
  | x::r,y::s,h=>by
    obtain ⟨h1,h2⟩:=rnE_at (xs:=r) (ys:=s) h.2;refine ⟨by simp [h1],fun j x' y' hx hy=>?_⟩;match j,hx,hy with
    | 0,hx,hy =>
      simp only [List.getElem?_cons_zero,Option.some.injEq] at hx hy;subst hx hy;exact h.1
    | j+1,hx,hy=>exact h2 j x' y' (by simpa using hx) (by simpa using hy)
theorem rbC_ok {ρ:Nat→Nat} {H:List (Nat × Blk)} {o:Option Blk} {b:Blk} (h:rbC ρ H o b):∃ b0,o=some b0∧RnB ρ H b0 b:=by
  unfold rbC at h;split at h
  · rename_i b0;obtain ⟨h1,h2,h3⟩:=h;refine ⟨b0,rfl,?_⟩;rcases h3 with ⟨h3,h4⟩ | h3
    · have e:b0=b:=by cases b0;cases b;simp_all
      rw [e];exact RnB.tr h4
    · unfold rnCC at h3;split at h3
      · rename_i es0 xs0 e0;split at h3
        · rename_i es xs e1;obtain ⟨rfl,h3⟩:=h3;obtain ⟨q1,q2⟩:=rnE_at h3;refine ⟨h1,h2,by rw [e0,e1];rfl,by rw [e0,e1];exact q1,fun i hi=>?_⟩;rw [e1] at hi;have hi:i<xs.length:=hi;rw [e0,e1];have g1:cAt (.li es0 xs) i=xs[i]:=by simp [cAt,List.getD,List.getElem?_eq_getElem hi]
          have g0:cAt (.li es0 xs0) i=xs0[i]'(by omega):=by simp [cAt,List.getD,List.getElem?_eq_getElem (show i<xs0.length by omega)]
          obtain ⟨r1,r2⟩:=rnL_at (q2 i _ _ (List.getElem?_eq_getElem (by omega)) (List.getElem?_eq_getElem hi));rw [g0,g1];exact ⟨r1.symm,fun j y0 y hy0 hy=>r2 j y0 y hy0 hy⟩
        · exact h3.elim
      · exact h3.elim
  · exact h.elim
def tmL (ρ:Nat→Nat) (H:List (Nat × Blk)) (tm0:List (Nat × AV)):List (Nat × AV)→Prop
  | []=>True
  | x::r=>rnC ρ H (gt tm0 x.1) x.2∧tmL ρ H tm0 r
def wkC (nl:Nat) (ρ:Nat→Nat) (s s':St):Prop :=
  s'.sz=s.sz∧kltL s'.ctr s'.H∧lntL ρ s'.H nl∧injL ρ s'.H∧blkL ρ s.H s'.H s'.H∧tmL ρ s'.H s.tm s'.tm
theorem kltL_at {c:Nat}:∀ {l:List (Nat × Blk)},kltL c l → ∀ e∈l,e.1<c
  | [],_,e,he=>by cases he
  | x::r,h,e,he=>by
    rcases List.mem_cons.1 he with rfl | he
    · exact h.1
    · exact kltL_at h.2 e he
theorem lntL_at {ρ:Nat→Nat} {H:List (Nat × Blk)}:∀ {n:Nat},lntL ρ H n → ∀ p,p<n→ρ p=p∧(lk H p).isSome=true
  | 0,_,p,hp=>by omega
  | n+1,h,p,hp=>by
    rcases Nat.lt_or_ge p n with hlt | hge
    · exact lntL_at h.2 p hlt
    · rw [show p=n by omega];exact h.1
theorem ninL_at {ρ:Nat→Nat} {k:Nat}:∀ {l:List (Nat × Blk)},ninL ρ k l → ∀ e∈l,ρ k ≠ ρ e.1
  | [],_,e,he=>by cases he
  | x::r,h,e,he=>by
    rcases List.mem_cons.1 he with rfl | he
    · exact h.1
    · exact ninL_at h.2 e he
theorem injL_at {ρ:Nat→Nat}:∀ {l:List (Nat × Blk)},injL ρ l → ∀ e∈l,∀ e'∈l,ρ e.1=ρ e'.1→e.1=e'.1
  | [],_,e,he,_,_,_=>by cases he
  | x::r,h,e,he,e',he',hq=>by
    rcases List.mem_cons.1 he with e1 | e1
    · rcases List.mem_cons.1 he' with e2 | e2
      · rw [e1,e2]
      · exact absurd hq (e1 ▸ ninL_at h.1 _ e2)
    · rcases List.mem_cons.1 he' with e2 | e2
      · exact absurd hq.symm (e2 ▸ ninL_at h.1 _ e1)
      · exact injL_at h.2 e e1 e' e2 hq
theorem blkL_at {ρ:Nat→Nat} {H0 H:List (Nat × Blk)}:∀ {l:List (Nat × Blk)},blkL ρ H0 H l → ∀ e∈l,∃ b0,lk H0 (ρ e.1)=some b0∧RnB ρ H b0 e.2
  | [],_,e,he=>by cases he
  | x::r,h,e,he=>by
    rcases List.mem_cons.1 he with rfl | he
    · exact rbC_ok h.1
    · exact blkL_at h.2 e he
theorem tmL_at {ρ:Nat→Nat} {H:List (Nat × Blk)} {tm0:List (Nat × AV)}:∀ {l:List (Nat × AV)},tmL ρ H tm0 l → ∀ e∈l,rnC ρ H (gt tm0 e.1) e.2
  | [],_,e,he=>by cases he
  | x::r,h,e,he=>by
    rcases List.mem_cons.1 he with rfl | he
    · exact h.1
    · exact tmL_at h.2 e he
section
variable {P:Program} {ty:Ty} {X:Cx} {H:List (Nat × Blk)} {S:CSet} {m:RMap} {w:World} {σ:Sg} {Q:Exit→Act→World→Prop}
theorem Rel.wk {s s':St} {nl:Nat} (hX:X.nl=nl) (ρ:Nat→Nat) (hC:wkC nl ρ s s') {a:Act} {w:World} (h:Rel X s a w):Rel X s' a w:=by
  obtain ⟨h1,h2,h3,h4,h5,h6⟩:=hC;subst hX;exact h.weak ρ h1 (kltL_at h2) (lntL_at h3) (fun e he e' he' _ _ hq=>injL_at h4 e he e' he' hq) (fun e he=>blkL_at h5 e he) (fun e he=>rnC_ok (tmL_at h6 e he))
theorem WA.wk {s s':St} {nl:Nat} {c:Code} (hX:X.nl=nl) (ρ:Nat→Nat) (h:WA P X c Q s') (hC:wkC nl ρ s s'):WA P X c Q s:=fun a w hR=>h a w (hR.wk hX ρ hC)
theorem WA.loopW {I:Type} {c:Code} {s:St} {nl:Nat} (hX:X.nl=nl) (ρ:Nat→Nat) (st:I→St) (μ:I→Nat) (inv:I→Prop) {i0:I} (h0:inv i0) (hC:wkC nl ρ s (st i0)) (hr:∀ i,inv i→WA P X c (Exit.then (fun a w=>∃ j,inv j∧μ j<μ i∧Rel X (st j) a w) Q) (st i)):WA P X (.loop c) Q s :=
  WA.wk hX ρ (WA.loop st μ inv h0 hr) hC
theorem roundE {I:Type} {s:St} {nl:Nat} (hX:X.nl=nl) (ρ:Nat→Nat) {st:I→St} {μ:I→Nat} {inv:I→Prop} {i j:I} (hj:inv j) (hm:μ j<μ i) (hC:wkC nl ρ s (st j)):∀ a w,Rel X s a w→Exit.then (fun a w=>∃ j,inv j∧μ j<μ i∧Rel X (st j) a w) Q .normal a w :=
  fun a w hR=>⟨j,hj,hm,hR.wk hX ρ hC⟩
def WN (X:Cx) (Q:Exit→Act→World→Prop) (s:St):Prop:=∀ a w,Rel X s a w→Q .normal a w
theorem WN.mk {s:St} (h:WN X Q s):∀ a w,Rel X s a w→Q .normal a w:=h
theorem WN.t {s:St} {z:Code} (h:WA P X z Q s):WN X (Exit.then (fun a w=>z.wp P Q a w) Q) s:=h
theorem WN.b {s:St} {id:Nat} (h:WN X Q s):WN X (Exit.inBlock id Q) s:=h
theorem WN.round {I:Type} {s:St} {nl:Nat} (hX:X.nl=nl) (ρ:Nat→Nat) {st:I→St} {μ:I→Nat} {inv:I→Prop} {i j:I} (hj:inv j) (hm:μ j<μ i) (hC:wkC nl ρ s (st j)):WN X (Exit.then (fun a w=>∃ j,inv j∧μ j<μ i∧Rel X (st j) a w) Q) s :=
  fun a w hR=>⟨j,hj,hm,hR.wk hX ρ hC⟩
theorem WA.skipN {s:St} (h:WN X Q s):WA P X .skip Q s:=WA.skip h
def WX (X:Cx) (id:Nat) (Q:Exit→Act→World→Prop) (s:St):Prop:=∀ a w,Rel X s a w→Q (.exit id) a w
theorem WA.exitX {s:St} {id:Nat} (h:WX X id Q s):WA P X (.exit id) Q s:=fun a w hR=>wp_exit (h a w hR)
theorem WX.t {s:St} {id:Nat} {R:Act→World→Prop} (h:WX X id Q s):WX X id (Exit.then R Q) s:=h
theorem WX.b {s:St} {id:Nat} {z:Code} (h:WA P X z Q s):WX X id (Exit.inBlock id (Exit.then (fun a w=>z.wp P Q a w) Q)) s:=fun a w hR=>by
  have:=h a w hR;simpa [Exit.then,Exit.inBlock] using this
theorem WX.n {s:St} {id id':Nat} (hne:(id == id')=false) (h:WX X id Q s):WX X id (Exit.inBlock id' Q) s:=fun a w hR=>by
  have:=h a w hR;have hne':¬ id=id':=by simpa using hne
  simpa [Exit.inBlock,hne'] using this
theorem WX.e {s:St} {id:Nat} {R:Act→World→Prop} (h:∀ a w,Rel X s a w→R a w):WX X id (Exit.inBlock id (Exit.then R Q)) s:=fun a w hR=>by
  have:=h a w hR;simpa [Exit.then,Exit.inBlock] using this
end
end Go.TravelAbs
namespace Go.TravelAbs
open Go.RowKit Go.TravelBase
def cvM (H:List (Nat × Blk)):List AV→Option (List AV × List (Nat × Blk) × Prop)
  | []=>some ([],[],True)
  | x::r =>
    match cvX H x with
    | some (y,e1,v1) =>
      match cvM (e1++H) r with
      | some (ys,e2,v2)=>some (y::ys,e2++e1,v1∧v2)
      | none=>none
    | none=>none
def NmR (s:St) (k:Nat) (K:St→Prop):Prop :=
  match lk s.H k with
  | some b =>
    match b.c with
    | .li es xs =>
      match cvM s.H xs with
      | some (xs',e,v)=>(v∧b.mode<3∧lk (e++s.H) k=some b)∧K ⟨s.tm,(k,⟨.li es xs',b.mode,b.ln⟩)::(e++s.H),s.ctr,s.sz⟩
      | none=>False
    | _=>False
  | none=>False
section
variable {P:Program} {ty:Ty} {X:Cx} {H:List (Nat × Blk)} {S:CSet} {m:RMap} {w:World} {σ:Sg} {Q:Exit→Act→World→Prop}
theorem cl_one {x:AV} (h:∀ ys,x ≠ .agg ys):x.cl=[x]:=by
  cases x <;> first | rfl | exact absurd rfl (h _)
theorem cv1_cl {x y:AV} {e:List (Nat × Blk)} {vc:Prop} (h:cv1 H x=some (y,e,vc)) (hvc:vc) (hx:x.cl=[x]):y.cl=[y]:=by
  unfold cv1 at h;split at h
  · split at h
    · simp only [Option.some.injEq,Prod.mk.injEq] at h;obtain ⟨rfl,rfl,rfl⟩:=h;rename_i b hb;obtain ⟨c1,_⟩:=hvc;cases hc:b.c <;> rw [hc] at c1 <;> first | rfl | cases c1
    · cases h
  · simp only [Option.some.injEq,Prod.mk.injEq] at h;obtain ⟨rfl,rfl,rfl⟩:=h;exact hx
theorem cvE_ok (hM:Mem X H S m w) {x y:AV} {vs:List Value} {e:List (Nat × Blk)} {vc:Prop} (hl:vs.length=x.cl.length) (hv:∀ (j:Nat) (z:AV) (v:Value),x.cl[j]? = some z→vs[j]? = some v→VR w S m z v) (h:cvX H x=some (y,e,vc)) (hvc:vc) :
    ∃ S',Mem X (e++H) S' m w∧Adv S m w S' m w∧y.cl.length=x.cl.length ∧ ∀ (j:Nat) (z:AV) (v:Value),y.cl[j]? = some z→vs[j]? = some v→VR w S' m z v:=by
  unfold cvX at h;split at h
  · rename_i xs;split at h
    · rename_i ys e' v' h';simp only [Option.some.injEq,Prod.mk.injEq] at h;obtain ⟨rfl,rfl,rfl⟩:=h;obtain ⟨S',a1,a2,a3,a4,_⟩:=cvL_ok xs H S ys e' v' vs hM hv hl h' hvc;exact ⟨S',a1,a2,a3,a4⟩
    · cases h
  · rename_i hne;have hx:x.cl=[x]:=cl_one hne;rw [hx] at hl hv ⊢;match vs,hl with
    | [v],_ =>
      obtain ⟨S',a1,a2,a3,_⟩:=cv1_ok hM (hv 0 x v rfl rfl) h hvc;have hy:=cv1_cl h hvc hx;refine ⟨S',a1,a2,by rw [hy];rfl,fun j z u hz hu=>?_⟩;rw [hy] at hz;match j,hz,hu with
      | 0,hz,hu =>
        simp only [List.getElem?_cons_zero,Option.some.injEq] at hz hu;subst hz hu;exact a3
      | j+1,hz,_=>simp at hz
theorem cvM_ok:∀ (xs:List AV) (H:List (Nat × Blk)) (S:CSet) (ys:List AV) (e:List (Nat × Blk)) (vc:Prop) (us:Nat→List Value),Mem X H S m w→(∀ (i:Nat) (x:AV),xs[i]? = some x→(us i).length=x.cl.length ∧ ∀ (j:Nat) (z:AV) (v:Value),x.cl[j]? = some z→(us i)[j]? = some v→VR w S m z v)→cvM H xs=some (ys,e,vc)→vc →
    ∃ S',Mem X (e++H) S' m w∧Adv S m w S' m w∧ys.length=xs.length ∧ ∀ (i:Nat) (y:AV),ys[i]? = some y→(us i).length=y.cl.length ∧ ∀ (j:Nat) (z:AV) (v:Value),y.cl[j]? = some z→(us i)[j]? = some v→VR w S' m z v
  | [],H,S,ys,e,vc,us,hM,_,h,_=>by
    simp only [cvM,Option.some.injEq,Prod.mk.injEq] at h;obtain ⟨rfl,rfl,_⟩:=h;exact ⟨S,hM,Adv.refl _ _ _,rfl,fun i y hy=>by simp at hy⟩
  | x::r,H,S,ys,e,vc,us,hM,hv,h,hvc=>by
    simp only [cvM] at h;split at h
    · rename_i y e1 v1 h1;split at h
      · rename_i ys' e2 v2 h2;simp only [Option.some.injEq,Prod.mk.injEq] at h;obtain ⟨rfl,rfl,rfl⟩:=h;obtain ⟨l0,p0⟩:=hv 0 x rfl;obtain ⟨S1,a1,a2,a3,a4⟩:=cvE_ok hM l0 p0 h1 hvc.1;obtain ⟨S2,b1,b2,b3,b4⟩:=cvM_ok r (e1++H) S1 ys' e2 v2 (fun i=>us (i+1)) a1 (fun i x' hx=>by
          obtain ⟨q1,q2⟩:=hv (i+1) x' (by simpa using hx);exact ⟨q1,fun j z v hz hv'=>(q2 j z v hz hv').adv a2⟩) h2 hvc.2
        refine ⟨S2,by rw [List.append_assoc];exact b1,a2.trans b2,by simp [b3],fun i y' hy=>?_⟩;match i,hy with
        | 0,hy =>
          simp only [List.getElem?_cons_zero,Option.some.injEq] at hy;subst hy;exact ⟨l0.trans a3.symm,fun j z v hz hu=>(a4 j z v hz hu).adv b2⟩
        | i+1,hy=>exact b4 i y' (by simpa using hy)
      · cases h
    · cases h
theorem Rel.norm {s:St} {k:Nat} {K:St→Prop} (h:NmR s k K) {a:Act} {w:World} (hR:Rel X s a w):∃ s',K s'∧Rel X s' a w:=by
  unfold NmR at h;split at h
  · rename_i b hb;split at h
    · rename_i es xs hc;split at h
      · rename_i xs' e v hcv;obtain ⟨⟨c1,c2,c3⟩,hK⟩:=h;refine ⟨_,hK,?_⟩;obtain ⟨S,m,hM,ht⟩:=hR.mem;obtain ⟨r,hr,hB⟩:=hM.blk k b hb;have hB:=hB c2;have hes:r.es=es:=by have:=hB.es;rw [hc] at this;exact this
        have hrd:=hB.rd;rw [hc] at hrd;have hcell:∀ (i:Nat) (x:AV),xs[i]? = some x→x.cl.length=es ∧ ∀ j y,x.cl[j]? = some y → ∃ u,w.cell? ⟨r.g,i*es+j,none⟩=some u∧VR w S m y u:=by
          intro i x hx;have hlt:=(List.getElem?_eq_some_iff.1 hx).1;have:=hrd i hlt;have e1:cAt (.li es xs) i=x:=by simp [cAt,List.getD,hx]
          rw [e1,hes] at this;exact this
        let us:Nat→List Value:=fun i=>(List.range es).map fun j=>(w.cell? ⟨r.g,i*es+j,none⟩).getD undef
        obtain ⟨S',a1,a2,a3,a4⟩:=cvM_ok xs s.H S xs' e v us hM (fun i x hx=>by
          obtain ⟨q1,q2⟩:=hcell i x hx;refine ⟨by simp [us,q1],fun j z v hz hv=>?_⟩;obtain ⟨u,hu,hvr⟩:=q2 j z hz;have hj:j<es:=by rw [← q1];exact (List.getElem?_eq_some_iff.1 hz).1
          simp only [us,List.getElem?_map,List.getElem?_range hj,Option.map_some,hu,Option.getD_some,Option.some.injEq] at hv;rw [← hv];exact hvr) hcv c1
        obtain ⟨r',hr',hB'⟩:=a1.blk k b c3;have:r'=r:=by rw [hr] at hr';injection hr' with e;exact e.symm
        subst this;have hB':=hB' c2;have hlen:∀ (i:Nat) (x:AV),xs[i]? = some x → ∀ j,j<es → ∃ u,w.cell? ⟨r'.g,i*es+j,none⟩=some u:=by
          intro i x hx j hj;obtain ⟨q1,q2⟩:=hcell i x hx;obtain ⟨u,hu,_⟩:=q2 j (x.cl[j]'(by omega)) (List.getElem?_eq_getElem _);exact ⟨u,hu⟩
        have hN:Mem X ((k,⟨.li es xs',b.mode,b.ln⟩)::(e++s.H)) S' m w:=by
          refine ⟨a1.lm,a1.frm,a1.s0,a1.s1,a1.slt,fun k' hk'=>?_,fun k' b' hk'=>?_,fun k1 k2 b1 b2 r1 r2 h1 h2 h3 h4 h5 h6 h7 h8 h9=>?_,a1.gl⟩
          · simp only [lk] at hk';split at hk'
            · cases hk'
            · exact a1.dom k' hk'
          · simp only [lk] at hk';split at hk'
            · rename_i e1;subst e1;injection hk' with hk';subst hk';refine ⟨r',hr,fun _=>⟨hes,?_,hB'.max,?_,?_,?_⟩⟩
              · have:=hB'.len;rw [hc] at this;show xs'.length≤r'.cap;rw [a3];exact this
              · intro i hi;have hi:i<xs'.length:=hi;have hi':i<xs.length:=by omega
                obtain ⟨q1,q2⟩:=a4 i xs'[i] (List.getElem?_eq_getElem hi);have e1:cAt (.li es xs') i=xs'[i]:=by simp [cAt,List.getD,List.getElem?_eq_getElem hi]
                rw [e1];have hus:(us i).length=es:=by simp [us]
                refine ⟨by rw [← q1,hus,hes],fun j y hy=>?_⟩;have hj:j<es:=by
                  have:=(List.getElem?_eq_some_iff.1 hy).1;omega
                obtain ⟨u,hu⟩:=hlen i xs[i] (List.getElem?_eq_getElem hi') j hj;refine ⟨u,by rw [hes];exact hu,q2 j y u hy ?_⟩;simp only [us,List.getElem?_map,List.getElem?_range hj,Option.map_some,hu,Option.getD_some]
              · intro h1 o ho;have hn:cN b.c=xs.length:=by rw [hc];rfl
                exact hB'.set h1 o (by rw [hn,← a3];exact ho)
              · intro h1 h2;obtain ⟨q1,q2,q3⟩:=hB'.row h1 h2;have hn:cN b.c=xs'.length:=by rw [hc,a3];rfl
                exact ⟨q1,q2,fun o ho=>q3 o (by rw [hn];exact ho)⟩
            · exact a1.blk k' b' hk'
          · have g:∀ k1 b1,lk ((k,⟨.li es xs',b.mode,b.ln⟩)::(e++s.H)) k1=some b1 → ∃ b1',lk (e++s.H) k1=some b1'∧b1'.mode=b1.mode:=by
              intro k1 b1 h;simp only [lk] at h;split at h
              · rename_i e1;subst e1;injection h with h;subst h;exact ⟨b,c3,rfl⟩
              · exact ⟨b1,h,rfl⟩
            obtain ⟨b1',g1,g2⟩:=g _ _ h1;obtain ⟨b2',g3,g4⟩:=g _ _ h2;exact a1.inj k1 k2 b1' b2' r1 r2 g1 g3 h3 h4 (by omega) (by omega) h7 h8 h9
        refine ⟨hR.size,hR.defers,fun k' hk'=>?_,S',m,hN,fun t=>(ht t).adv a2⟩;have h0:=hR.kl k' hk';simp only [lk];rw [if_neg (by intro e1;subst e1;rw [hb] at h0;cases h0)];exact Mem.dom' hM a1 h0
      · exact h.elim
    · exact h.elim
  · exact h.elim
theorem WA.norm {c:Code} {s:St} (k:Nat) (h:∀ K:St→Prop,(∀ s',WA P X c Q s'→K s')→NmR s k K):WA P X c Q s:=fun a w hR=>by
  obtain ⟨s',h1,h2⟩:=Rel.norm (h (fun s'=>WA P X c Q s') (fun _ h=>h)) hR;exact h1 a w h2
theorem FnS.len {f:FuncId} {args ls:List AV} {r:AV} {ls':List AV} (h:(∀ (j es:Nat) (xs:List AV),args[j]? = some (.li es xs)→xs.length≤maxLen)→(∀ (j:Nat) (bs:List UInt8),args[j]? = some (.by_ bs)→bs.length≤maxLen)→FnS P f args ls r ls'):FnS P f args ls r ls':=by
  intro w S rows vs h1 hg h2 h3 h4 h5;refine h (fun j es xs hj=>?_) (fun j bs hj=>?_) w S rows vs h1 hg h2 h3 h4 h5
  · have hlt:j<vs.size:=by rw [h2];exact (List.getElem?_eq_some_iff.1 hj).1
    have:=h3 j _ vs[j] hj (Array.getElem?_eq_getElem hlt);cases hv:vs[j] <;> rw [hv] at this <;> cases this
    omega
  · have hlt:j<vs.size:=by rw [h2];exact (List.getElem?_eq_some_iff.1 hj).1
    have:=h3 j _ vs[j] hj (Array.getElem?_eq_getElem hlt);cases hv:vs[j] <;> rw [hv] at this <;> cases this
    omega
end
end Go.TravelAbs
namespace Go.TravelAbs
open Go.RowKit Go.TravelBase
attribute [go_sem] ldK ldP blind cvK cvKL cvY bopE eqK isOne isOneW bopW EvR EvD maxLen byte_lt byte_lti byte_lei UInt8.ofNat_toNat wrap_byte u8_nn u8_lt u8_le cndB beq_true beq_false imp_self and_self Bool.not_not
attribute [go_sem] Bool.and_self inR_i64 inR_u8 evL evD visH addE allH inL wrB keyOK ownK ordB evG evX evA evM evC bop bopI bopS uop pickA cmpI isCmp opnd gt lk putT
attribute [go_sem] stepS stp cnd idx sub isA ldA zeroA zOK isU8 isBy emptyC catC catOK cpA cpOK mkC mkOK asL srcA okL okc cN cE cAt bA toB byteOK_int setE putX putL fillA
attribute [go_sem] fillOK AV.cl AV.one Value.oneCell' TK.row Option.getD_some Option.getD_none Option.map_some Option.map_none Option.bind_some Option.bind_none cvA cvX
attribute [go_sem] cvL cv1 isL List.getElem?_cons_zero List.getElem?_cons_succ List.nil_append List.cons_append List.append_nil List.map_cons List.map_nil
attribute [go_sem] List.length_map List.length_cons List.length_nil List.take_zero List.drop_zero List.take_succ_cons List.drop_succ_cons List.drop_nil List.take_nil
attribute [go_sem] List.take_length List.headD_cons List.map_replicate List.length_replicate List.length_take List.length_drop List.length_append List.length_set
attribute [go_sem] List.all_nil List.all_cons List.getD_cons_zero List.getD_cons_succ List.set_cons_zero List.set_cons_succ List.isEmpty_nil List.mem_cons
attribute [go_sem] List.not_mem_nil or_false false_or or_true true_or forall_eq_or_imp forall_eq List.range_succ List.range_zero bne_iff_ne ne_eq rcv rcvL rcvP adH
attribute [go_sem] lendF gvn dropH gvH lentAds frA frL frP lkAll okO dOK nFr RT RT1 Tr_lit Tr_by Tr_agg Tr_nil Tr_li TrC_lie trE_nil trE_cons trA_nil trA_cons TrC_by decide_true
attribute [go_sem] decide_false Bool.and_true Bool.true_and Bool.and_false Bool.false_and Bool.or_true Bool.or_false Bool.false_or Bool.true_or Bool.not_true
attribute [go_sem] Bool.not_false Bool.false_eq_true cond_true cond_false beq_self_eq_true true_and and_true true_implies implies_true false_implies not_true_eq_false
attribute [go_sem] not_false_eq_true Nat.min_self Nat.min_def Int.cast_ofNat_Int if_true if_false Int.toNat_natCast Nat.zero_add Nat.add_zero Nat.mul_one Nat.one_mul
attribute [go_sem] Nat.sub_zero List.nodup_nil List.nodup_cons Option.mem_def Option.some.injEq forall_eq' ExR sbT sbL AV.by_.injEq AV.lit.injEq AV.agg.injEq AV.li.injEq
attribute [go_sem] List.cons.injEq Value.int.injEq Value.bool.injEq List.cons_ne_nil eq_self resA fzL fz1 frs frks kOf lnt mkR isT wkC rnC kltL lntL ninL injL blkL tmL
attribute [go_sem] Nat.reduceAdd Nat.reduceLT Nat.reduceLeDiff Nat.reduceEqDiff Nat.reduceSub Nat.reduceMul Nat.reduceBEq Nat.reduceBNe Nat.reducePow Nat.reduceDiv Int.reduceLE Int.reduceLT Int.reduceToNat Int.reduceNeg Int.reduceAdd Int.reduceSub Int.reduceEq reduceIte reduceCtorEq UInt8.reduceOfNat
attribute [go_sem] evN fnv byL isZ Option.isNone_none Option.isNone_some
attribute [go_sem] rbC rnCC rnE rnL Option.isSome_some AV.sl.injEq AV.ptr.injEq Blk.mk.injEq NmR cvM fc fv
end Go.TravelAbs
namespace Go.TravelAbs
open Go.RowKit Go.TravelBase
section
variable {P:Program} {ty:Ty} {X:Cx} {H:List (Nat × Blk)} {S:CSet} {m:RMap} {w:World} {σ:Sg} {Q:Exit→Act→World→Prop}
theorem nil_own {k:Nat} {c:AV} (hc:cN c=0):VR w S (mset m k ⟨0,0,cE c⟩) (.sl k (cE c) 0 0) (.slice none 0 0) :=
  .sl (r:=⟨0,0,cE c⟩) (by simp [mset]) rfl (Nat.le_refl _) (Nat.zero_le _) (fun h=>absurd h (Nat.lt_irrefl _)) (fun _=>rfl)
theorem Rel.own0 {s:St} (t:Nat) (c:AV) (ht0:gt s.tm t = .lit (.slice none 0 0)) (hc:cN c=0) {a:Act} (hR:Rel X s a w):Rel X ⟨(t,.sl s.ctr (cE c) 0 0)::s.tm,(s.ctr,⟨c,0,false⟩)::s.H,s.ctr+8,s.sz⟩ a w:=by
  obtain ⟨S,m,hM,ht⟩:=hR.mem;have hk:=hR.kl s.ctr (Nat.le_refl _);obtain ⟨q1,q2⟩:=hM.newE hk hc;refine ⟨hR.size,hR.defers,fun k hk'=>?_,S,_,q1,fun t'=>?_⟩
  · simp only [lk];have hk':s.ctr+8≤k:=hk';rw [if_neg (by omega)];exact hR.kl k (by omega)
  · by_cases e:t'=t
    · subst e;have h1:=ht t';rw [ht0] at h1;have h2:=h1.lit_inv;rw [h2];have e1:gt ((t',AV.sl s.ctr (cE c) 0 0)::s.tm) t' = .sl s.ctr (cE c) 0 0:=by simp [gt,lk]
      show VR w S _ (gt ((t',AV.sl s.ctr (cE c) 0 0)::s.tm) t') _;rw [e1];exact nil_own hc
    · have e1:gt ((t,AV.sl s.ctr (cE c) 0 0)::s.tm) t'=gt s.tm t':=by simp [gt,lk,e]
      show VR w S _ (gt ((t,AV.sl s.ctr (cE c) 0 0)::s.tm) t') _;rw [e1];exact (ht t').adv q2
theorem WA.own0 {c:Code} {s:St} (t:Nat) (x:AV) (ht0:gt s.tm t = .lit (.slice none 0 0)) (hc:cN x=0) (h:WA P X c Q ⟨(t,.sl s.ctr (cE x) 0 0)::s.tm,(s.ctr,⟨x,0,false⟩)::s.H,s.ctr+8,s.sz⟩):WA P X c Q s :=
  fun a w hR=>h a w (hR.own0 t x ht0 hc)
theorem Rel.own0c {s:St} (k es off:Nat) (x c:AV) (md:Nat) (ln:Bool) (hb:lk s.H k=some ⟨.li es [x],md,ln⟩) (hmd:md=0) (hx:x.cl[off]? = some (.lit (.slice none 0 0))) (hc:cN c=0) {x':AV} (hx':x'.cl=x.cl.set off (.sl s.ctr (cE c) 0 0)) {a:Act} (hR:Rel X s a w) :
    Rel X ⟨s.tm,(k,⟨.li es [x'],md,ln⟩)::(s.ctr,⟨c,0,false⟩)::s.H,s.ctr+8,s.sz⟩ a w:=by
  subst hmd;obtain ⟨S,m,hM,ht⟩:=hR.mem;have hk:=hR.kl s.ctr (Nat.le_refl _);obtain ⟨q1,q2⟩:=hM.newE hk hc;have hne:k ≠ s.ctr:=by intro e;rw [e,hk] at hb;cases hb
  have hne':s.ctr ≠ k:=fun e=>hne e.symm;obtain ⟨r,hr,hB⟩:=q1.blk k ⟨.li es [x],0,ln⟩ (by simp only [lk];rw [if_neg hne];exact hb);have hB:=hB (by decide:0<3);refine ⟨hR.size,hR.defers,fun k' hk'=>?_,S,_,?_,fun t=>(ht t).adv q2⟩
  · have hk':s.ctr+8≤k':=hk';simp only [lk];rw [if_neg (by omega:¬ k'=s.ctr)];have h0:=hR.kl k' (by omega);rw [if_neg (by intro e;rw [e,hb] at h0;cases h0)];exact h0
  · refine ⟨q1.lm,q1.frm,q1.s0,q1.s1,q1.slt,fun k' hk'=>?_,fun k' b' hk'=>?_,fun k1 k2 b1 b2 r1 r2 h1 h2 h3 h4 h5 h6 h7 h8 h9=>?_,q1.gl⟩
    · have e1:∀ l:List (Nat × Blk),lk ((k,(⟨.li es [x'],0,ln⟩:Blk))::l) k'=none→k' ≠ k∧lk l k'=none:=by
        intro l h;simp only [lk] at h;split at h
        · cases h
        · exact ⟨by assumption,h⟩
      exact q1.dom k' (e1 _ hk').2
    · simp only [lk] at hk';split at hk'
      · rename_i e1;subst e1;injection hk' with hk';subst hk';refine ⟨r,hr,fun _=>⟨hB.es,hB.len,hB.max,?_,fun h=>by simp at h,fun h1 h2=>?_⟩⟩
        · intro i hi;have hi0:i=0:=by have:i<1:=hi;omega
          subst hi0;obtain ⟨p1,p2⟩:=hB.rd 0 (by show 0<1;omega);have e1:cAt (.li es [x]) 0=x:=rfl;have e2:cAt (.li es [x']) 0=x':=rfl;simp only at p1 p2
          rw [e1] at p1 p2;simp only
          rw [e2,hx'];refine ⟨by rw [List.length_set];exact p1,fun j y hy=>?_⟩;rw [List.getElem?_set] at hy;split at hy
          · rename_i e3;subst e3;split at hy
            · injection hy with hy;subst hy;obtain ⟨u,hu,hv⟩:=p2 off _ hx;have:=hv.lit_inv;subst this;exact ⟨_,hu,nil_own hc⟩
            · cases hy
          · exact p2 j y hy
        · have:=hB.row h1 h2;exact this
      · rename_i e1;exact q1.blk k' b' (by simp only [lk];exact hk')
    · have g:∀ k1 b1,lk ((k,(⟨.li es [x'],0,ln⟩:Blk))::(s.ctr,⟨c,0,false⟩)::s.H) k1=some b1 → ∃ b1',lk ((s.ctr,(⟨c,0,false⟩:Blk))::s.H) k1=some b1'∧b1'.mode=b1.mode:=by
        intro k1 b1 h;rw [lk] at h;split at h
        · rename_i e1;have e1:k1=k:=e1;subst e1;injection h with h;subst h;exact ⟨⟨.li es [x],0,ln⟩,by simp only [lk];rw [if_neg hne];exact hb,rfl⟩
        · exact ⟨b1,h,rfl⟩
      obtain ⟨b1',g1,g2⟩:=g _ _ h1;obtain ⟨b2',g3,g4⟩:=g _ _ h2;exact q1.inj k1 k2 b1' b2' r1 r2 g1 g3 h3 h4 (by omega) (by omega) h7 h8 h9
end
end Go.TravelAbs
namespace Go.TravelAbs
open Go.RowKit Go.TravelBase
structure Rs where
  I:Type
  p:I→Prop
  r:I→AV
  ls:I→List AV
  vc:Prop
abbrev Sg2:=FuncId→List AV→List AV→Option Rs
structure OutE where
  I:Type
  p:I→Prop
  v:I→AV
  eff:I→List (Nat × Blk)
  vc:Prop
def evE (τ:Sg2) (H:List (Nat × Blk)) (fr:Nat) (g:Operand→AV) (op:Op):Option OutE :=
  match op with
  | .call ⟨.value f,args,_⟩ =>
    match stp (g f) with
    | .clo fid caps =>
      match cvA false H ((args.toList.map fun x=>stp (g x))++caps) 0 with
      | some (ars,ks,e1,v1) =>
        match lkAll (e1++H) ks with
        | some bs =>
          match τ fid ars (bs.map (·.c)) with
          | some R=>some ⟨R.I,R.p,fun i=>(rcv fr (R.r i)).1,fun i=>adH (lentAds ks bs (R.ls i) 0++frA fr 1000 (R.r i)) []++e1,
              cnd (g f)∧(∀ x∈args.toList,cnd (g x))∧v1∧R.vc∧ks.Nodup∧ks.length<1000∧(∀ b∈bs,b.mode=0∧0<cN b.c∧TrC b.c)∧(∀ i,R.p i→(R.ls i).length=ks.length∧(∀ c∈R.ls i,TrC c)∧RT (R.r i)∧nFr (R.r i)≤8)⟩
          | none=>none
        | none=>none
      | none=>none
    | _=>none
  | _=>none
def EvQ (ty:Ty) (σ:Sg) (τ:Sg2) (gd:Nat→Option Tmp):List Oper→St→(St→Prop)→Prop
  | [],s,K=>K s
  | o::l,s,K =>
    match (match o.guard with | none=>evE τ s.H s.ctr (opnd s.tm) o.op | some _=>none) with
    | some E=>(E.vc∧dOK o.dst s.sz=true) ∧ ∀ i,E.p i→((E.eff i).all (fun x=>decide (x.1<s.ctr+8))=true∧EvQ ty σ τ gd l (stepS s o ⟨E.v i,E.eff i,True⟩) K)
    | none =>
      match evG ty σ gd s.H s.ctr s.tm o with
      | some out=>(okO s o out∧out.vc)∧EvQ ty σ τ gd l (stepS s o out) K
      | none=>False
section
variable {P:Program} {ty:Ty} {X:Cx} {H:List (Nat × Blk)} {S:CSet} {m:RMap} {w:World} {σ:Sg} {τ:Sg2} {Q:Exit→Act→World→Prop}
theorem WA.join {I:Type} {c z:Code} {s:St} (st:I→St) (inv:I→Prop) (hc:WA P X c (Exit.then (fun a w=>∃ i,inv i∧Rel X (st i) a w) Q) s) (hz:∀ i,inv i→WA P X z Q (st i)):WA P X (.seq c z) Q s :=
  WA.seq fun a w hR=>wp_mono (hc a w hR) fun e a w h=>by
    cases e with
    | normal =>
      obtain ⟨i,hi,hR'⟩:=h;exact hz i hi a w hR'
    | _=>exact h
theorem WN.join {I:Type} {s:St} {nl:Nat} (hX:X.nl=nl) (ρ:Nat→Nat) {st:I→St} {inv:I→Prop} (j:I) (hj:inv j) (hC:wkC nl ρ s (st j)):WN X (Exit.then (fun a w=>∃ j,inv j∧Rel X (st j) a w) Q) s :=
  fun a w hR=>⟨j,hj,hR.wk hX ρ hC⟩
end
attribute [go_sem] EvQ evE
end Go.TravelAbs
namespace Go.TravelAbs
open Go.RowKit Go.TravelBase
def NtR (s:St) (t:Nat) (K:St→Prop):Prop :=
  match cvY s.H (gt s.tm t) with
  | some (y,e,v)=>v∧K ⟨(t,y)::s.tm,e++s.H,s.ctr,s.sz⟩
  | none=>False
section
variable {P:Program} {ty:Ty} {X:Cx} {H:List (Nat × Blk)} {S:CSet} {m:RMap} {w:World} {σ:Sg} {Q:Exit→Act→World→Prop}
theorem Rel.normT {s:St} {t:Nat} {K:St→Prop} (h:NtR s t K) {a:Act} {w:World} (hR:Rel X s a w):∃ s',K s'∧Rel X s' a w:=by
  unfold NtR at h;split at h
  · rename_i y e v hcv;obtain ⟨S,m,hM,ht⟩:=hR.mem;obtain ⟨S',a1,a2,a3,a4⟩:=cvY_ok hM (ht t) hcv h.1;refine ⟨_,h.2,hR.size,hR.defers,fun k hk=>Mem.dom' hM a1 (hR.kl k hk),S',m,a1,fun t'=>?_⟩;by_cases e1:t'=t
    · subst e1;have e2:gt ((t',y)::s.tm) t'=y:=by simp [gt,lk]
      show VR w S' m (gt ((t',y)::s.tm) t') _;rw [e2];exact a3
    · have e2:gt ((t,y)::s.tm) t'=gt s.tm t':=by simp [gt,lk,e1]
      show VR w S' m (gt ((t,y)::s.tm) t') _;rw [e2];exact (ht t').adv a2
  · exact h.elim
theorem WA.normT {c:Code} {s:St} (t:Nat) (h:∀ K:St→Prop,(∀ s',WA P X c Q s'→K s')→NtR s t K):WA P X c Q s:=fun a w hR=>by
  obtain ⟨s',h1,h2⟩:=Rel.normT (h (fun s'=>WA P X c Q s') (fun _ h=>h)) hR;exact h1 a w h2
end
theorem Tr_ep {x:AV} {off:Nat} (h:∀ y∈x.cl,Tr y):Tr (.ep x off)=True:=eq_true (Tr.ep h)
theorem Tr_clo {f:FuncId} {caps:List AV} (h:∀ x∈caps,Tr x):Tr (.clo f caps)=True:=eq_true (Tr.clo h)
attribute [go_sem] NtR Tr_ep Tr_clo
end Go.TravelAbs
namespace Go.TravelAbs
open Go.RowKit Go.TravelBase
structure Hid (p:Prop):Prop where
  h:p
theorem eK {G A:Prop} (h:G) (hc:Hid G→A:=by (intro h_;(repeat refine sdA ?_);exact hK _ h_.1)):A:=hc ⟨h⟩
theorem eN {G A:Prop} (h:G) (hc:Hid G→A:=by (intro h_;(repeat refine sdA ?_);with_reducible refine hK _ (WN.mk ?_);(with_reducible repeat first | refine WN.t ?_ | refine WN.b ?_);exact h_.1)):A:=hc ⟨h⟩
structure Stp (n:Nat) (p:Prop):Prop where
  h:p
theorem st_0 {p:Prop} (h:p):Stp 0 p:=⟨h⟩
section
variable {P:Program} {ty:Ty} {X:Cx} {σ:Sg} {Q:Exit→Act→World→Prop} {n:Nat}
theorem st_r {s s':St} {id:Nat} {l:List Oper} {y:Code} (hT:TysOK P ty) (hs:SgOK P σ) (h:Stp n (WA P X y Q s')) (hc:∀ K:St→Prop,(∀ t,WA P X y Q t→K t)→Hid (WA P X y Q s')→EvR ty σ (fun j=>(l[j]?).bind (·.dst)) l s K:=by (intro K hK h_;simp only [go_sem,true_and];(repeat refine sdA ?_);exact hK _ h_.1)):Stp (n+1) (WA P X (.seq (.region id l.toArray false) y) Q s):=⟨WA.regionK hT hs fun K hK=>hc K hK ⟨h.1⟩⟩
theorem st_e {G:Prop} {s:St} {id:Nat} {l:List Oper} (hT:TysOK P ty) (hs:SgOK P σ) (h:Stp n G) (hc:∀ K:St→Prop,(∀ t,(∀ a w,Rel X t a w→Q .normal a w)→K t)→Hid G→EvR ty σ (fun j=>(l[j]?).bind (·.dst)) l s K:=by (intro K hK h_;simp only [go_sem,true_and];(repeat refine sdA ?_);with_reducible refine hK _ (WN.mk ?_);(with_reducible repeat first | refine WN.t ?_ | refine WN.b ?_);exact h_.1)):Stp (n+1) (WA P X (.region id l.toArray false) Q s):=⟨WA.regionE hT hs fun K hK=>hc K hK ⟨h.1⟩⟩
theorem st_q {s:St} {x y:Code} (h:Stp n (WA P X x (Exit.then (fun a w=>y.wp P Q a w) Q) s)):Stp (n+1) (WA P X (.seq x y) Q s):=⟨WA.seq h.1⟩
theorem st_b {s:St} {id:Nat} {c:Code} (h:Stp n (WA P X c (Exit.inBlock id Q) s)):Stp (n+1) (WA P X (.block id c) Q s):=⟨WA.block h.1⟩
theorem st_n {G:Prop} {s:St} (h:Stp n G) (hc:Hid G→WN X Q s:=by (intro h_;(with_reducible repeat first | refine WN.t ?_ | refine WN.b ?_);exact h_.1)):Stp (n+1) (WA P X .skip Q s):=⟨WA.skipN (hc ⟨h.1⟩)⟩
theorem st_x {G:Prop} {s:St} {id:Nat} (h:Stp n G) (hc:Hid G→WX X id Q s:=by (intro h_;(repeat first | with_reducible refine WX.b ?_ | with_reducible refine WX.t ?_ | (with_reducible refine WX.n ?hne ?_;case hne=>rfl));exact h_.1)):Stp (n+1) (WA P X (.exit id) Q s):=⟨WA.exitX (hc ⟨h.1⟩)⟩
theorem st_f {s:St} {c:Operand} {x y:Code} (hc:opnd s.tm c = .lit (.bool false)) (h:Stp n (WA P X y Q s)):Stp (n+1) (WA P X (.cond c x y) Q s):=⟨WA.cond hc (fun e=>by cases e) fun _=>h.1⟩
theorem st_t {s:St} {c:Operand} {x y:Code} (hc:opnd s.tm c = .lit (.bool true)) (h:Stp n (WA P X x Q s)):Stp (n+1) (WA P X (.cond c x y) Q s):=⟨WA.cond hc (fun _=>h.1) fun e=>by cases e⟩
theorem up (n:Nat) {G p:Prop} (h:G) (hc:Hid G→Stp n p:=by (intro h_;repeat first | exact st_0 h_.1 | refine st_r ty_ok hs ?_ | refine st_q ?_ | refine st_b ?_ | refine st_n ?_ | refine st_f rfl ?_ | refine st_t rfl ?_ | refine st_x ?_ | refine st_e ty_ok hs ?_)):p:=(hc ⟨h⟩).1
theorem fo {f:FuncId} {fn:Func} {c:Code} {args ls:List AV} {r:AV} {ls':List AV} {s':St} (hf:P.funcs[f]? = some fn) (N:Nat) (h:∀ X:Cx,X.nl=ls.length→WA P X c (FQ P X fn r ls') s') (hb:fn.body=some c:=by rfl) (hN:fn.ntmps=N:=by rfl) (hn:args.length≤N:=by simp) (hls:ls.length≤2000:=by simp) (e:s'=(⟨tmArgs args 0,lentH ls 0,2000,N⟩:St):=by (simp only [tmArgs,lentH,Nat.reduceAdd];try rfl)):FnS P f args ls r ls' :=
  FnS.of hf hb hN hn hls fun X hX=>e ▸ h X hX
theorem rE {s:St} {fn:Func} (xs ls':List AV) (rv:List ResultVar) (h:ExR ty s rv xs ls') (hQ:∀ a w,FQ P X fn (mkR xs) ls' .ret a w→Q .ret a w:=by exact fun _ _ h=>h) (hT:TysOK P ty:=by exact ty_ok) (hrv:fn.results.toList=rv:=by rfl) (hnl:X.nl=ls'.length:=by exact hX) (h1000:ls'.length<1000:=by simp) (hsg:xs.length=1→isT (xs.getD 0 .any)=false:=by exact fun _=>rfl):WA P X .ret Q s:=WA.retE hT hrv hnl h1000 hsg hQ h
end
end Go.TravelAbs
