import Derived.Test.YtjjkfpbkmhfckaaGreatDoorAbsAB
import Derived.Test.YtjjkfpbkmhfckaaGreatDoorK06
import Derived.TacticsIn
import Derived.OrdersIn
import Derived.RangeFuncNested
import Derived.RangeFuncCalls
import Derived.RangeFuncBound
import Derived.RangeFuncLeaves
import Derived.Shelf.Abstract
import Derived.Shelf.RegionOpen
import Derived.WalkKit
import Derived.OwnWalkIn
import Derived.TacticsInMore
import Derived.LoopNIn
import Derived.LoopIn
import Derived.Test.YtjjkfpbkmhfckaaGreatDoorProg
set_option linter.unusedVariables false
set_option linter.unusedSimpArgs false
set_option maxHeartbeats 1000000
set_option maxRecDepth 10000
namespace Go.TravelAbs
open Go.RowKit Go.TravelBase
def hid (K:List Nat):List (Nat × Blk)→List (Nat × Blk)
  | []=>[]
  | x::r=>if inL x.1 K=true then hid K r else x::hid K r
theorem lk_hid {K:List Nat} {k:Nat} {b:Blk}:∀ {H:List (Nat × Blk)},lk (hid K H) k=some b→lk H k=some b∧inL k K=false
  | [],h=>by cases h
  | x::r,h=>by
    simp only [hid] at h;by_cases hx:inL x.1 K=true
    · rw [if_pos hx] at h;obtain ⟨h1,h2⟩:=lk_hid h;refine ⟨?_,h2⟩;simp only [lk];rw [if_neg (fun e=>by rw [e,hx] at h2;cases h2)];exact h1
    · rw [if_neg hx] at h;simp only [lk] at h ⊢;by_cases hk:k=x.1
      · rw [if_pos hk] at h ⊢;refine ⟨h,?_⟩;rw [hk];simpa using hx
      · rw [if_neg hk] at h ⊢;exact lk_hid h
def hidOK (K:List Nat) (eff:List (Nat × Blk)):Bool:=eff.all (fun x=>!inL x.1 K)
def wrB2 (tbl:List (List Nat)) (nb:List Nat) (hk:List (List Nat)) (ctr:Nat):List (Nat × List (Nat × Blk))→Bool
  | []=>true
  | x::r=>(x.2.all (fun y=>ownK ctr x.1 y.1) || nb.all fun j=>j == x.1 || ordB tbl x.1 j || x.2.all (fun y=>ownK ctr x.1 y.1 || inL y.1 (hk.getD j []))) && wrB2 tbl nb hk ctr r
def evD2 (ty:Ty) (σ:Sg) (gd:Nat→Option Tmp) (tbl:List (List Nat)) (nb:List Nat) (hk:List (List Nat)) (H0:List (Nat × Blk)) (ctr sz:Nat):List Oper→Nat→List (Nat × AV)→List (Nat × List (Nat × Blk))→Option (List (Nat × AV) × List (Nat × List (Nat × Blk)) × Prop)
  | [],_,tm,he=>some (tm,he,True)
  | o::r,j,tm,he =>
    match evG ty σ gd (hid (hk.getD j []) (visH tbl j he++H0)) (ctr+8*j) tm o with
    | some out =>
      match evD2 ty σ gd tbl nb hk H0 ctr sz r (j+1) (putT o.dst out.v tm) (addE j out.eff he) with
      | some (tm',he',vc)=>some (tm',he',(dOK o.dst sz=true∧hidOK (hk.getD j []) out.eff=true)∧keyOK tbl nb ctr j out.eff=true∧out.vc∧vc)
      | none=>none
    | none=>none
section
variable {P:Program} {ty:Ty} {X:Cx} {σ:Sg}
def Good2 (ty:Ty) (σ:Sg) (ops:Array Oper) (tbl:List (List Nat)) (nb:List Nat) (hk:List (List Nat)) (H0:List (Nat × Blk)) (tm0:List (Nat × AV)) (ctr sz:Nat):List En→Prop
  | []=>True
  | e::acc=>e.j=acc.length∧(∃ o out,ops[e.j]? = some o∧evG ty σ (fun j=>(ops[j]?).bind (·.dst)) (hid (hk.getD e.j []) (FH acc (fun i=>inL i (tbl.getD e.j []))++H0)) (ctr+8*e.j) (FT acc (fun _=>true)++tm0) o=some out ∧
      e.ps=putT o.dst out.v []∧e.ef=out.eff∧(dOK o.dst sz=true∧hidOK (hk.getD e.j []) out.eff=true)∧keyOK tbl nb ctr e.j out.eff=true∧out.vc)∧Good2 ty σ ops tbl nb hk H0 tm0 ctr sz acc
theorem evD2_good {ops:Array Oper} {tbl:List (List Nat)} {nb:List Nat} {hk:List (List Nat)} {H0:List (Nat × Blk)} {tm0:List (Nat × AV)} {ctr sz:Nat}:∀ (l:List Oper) (acc:List En) (tm':List (Nat × AV)) (he':List (Nat × List (Nat × Blk))) (vc:Prop),Good2 ty σ ops tbl nb hk H0 tm0 ctr sz acc→(∀ i,l[i]? = ops[acc.length+i]?) →
    evD2 ty σ (fun j=>(ops[j]?).bind (·.dst)) tbl nb hk H0 ctr sz l acc.length (FT acc (fun _=>true)++tm0) (neE acc)=some (tm',he',vc)→vc → ∃ acc',Good2 ty σ ops tbl nb hk H0 tm0 ctr sz acc'∧acc'.length=acc.length+l.length∧tm'=FT acc' (fun _=>true)++tm0∧he'=neE acc'
  | [],acc,tm',he',vc,hG,_,h,_=>by
    simp only [evD2,Option.some.injEq,Prod.mk.injEq] at h;obtain ⟨rfl,rfl,_⟩:=h;exact ⟨acc,hG,rfl,rfl,rfl⟩
  | o::r,acc,tm',he',vc,hG,hl,h,hvc=>by
    simp only [evD2] at h;split at h
    · rename_i out hout;split at h
      · rename_i tm2 he2 vc2 h2;simp only [Option.some.injEq,Prod.mk.injEq] at h;obtain ⟨rfl,rfl,rfl⟩:=h;obtain ⟨v1,v2,v3,v4⟩:=hvc;have ho:ops[acc.length]? = some o:=by have:=hl 0;simpa using this.symm
        rw [visH_neE] at hout;let e:En:=⟨acc.length,putT o.dst out.v [],out.eff⟩
        have hG':Good2 ty σ ops tbl nb hk H0 tm0 ctr sz (e::acc):=⟨rfl,⟨o,out,ho,hout,rfl,rfl,v1,v2,v3⟩,hG⟩;have e1:putT o.dst out.v (FT acc (fun _=>true)++tm0)=FT (e::acc) (fun _=>true)++tm0:=by
          rw [putT_app];simp [FT,e]
        rw [e1,show addE acc.length out.eff (neE acc)=neE (e::acc) from addE_neE e acc] at h2
        obtain ⟨acc',q1,q2,q3,q4⟩:=evD2_good r (e::acc) tm2 he2 vc2 hG' (fun i=>by
          have:=hl (i+1);simp only [List.getElem?_cons_succ] at this;rw [this,List.length_cons,show acc.length+(i+1)=acc.length+1+i by omega]) h2 v4
        exact ⟨acc',q1,by rw [q2];simp;omega,q3,q4⟩
      · cases h
    · cases h
theorem Good2.split {ops:Array Oper} {tbl:List (List Nat)} {nb:List Nat} {hk:List (List Nat)} {H0:List (Nat × Blk)} {tm0:List (Nat × AV)} {ctr sz:Nat}:∀ {acc:List En},Good2 ty σ ops tbl nb hk H0 tm0 ctr sz acc → ∀ {j:Nat},j<acc.length →
    ∃ pre e acc',acc=pre++e::acc'∧e.j=j∧Good2 ty σ ops tbl nb hk H0 tm0 ctr sz (e::acc')∧(∀ x∈pre,j<x.j)∧(∀ x∈acc',x.j<j)
  | [],_,j,hj=>by simp at hj
  | e::acc,hG,j,hj=>by
    have hlt:∀ {acc:List En},Good2 ty σ ops tbl nb hk H0 tm0 ctr sz acc → ∀ x∈acc,x.j<acc.length:=by
      intro acc;induction acc with
      | nil=>intro _ x hx;cases hx
      | cons y acc ih =>
        intro hG x hx;rcases List.mem_cons.1 hx with rfl | hx
        · have:=hG.1;simp;omega
        · have:=ih hG.2.2 x hx;simp;omega
    by_cases he:j=acc.length
    · exact ⟨[],e,acc,rfl,by rw [hG.1,he],hG,(fun x hx=>absurd hx List.not_mem_nil),(fun x hx=>by rw [he];exact hlt hG.2.2 x hx)⟩
    · have hj':j<acc.length:=by simp at hj;omega
      obtain ⟨pre,e',acc',h1,h2,h3,h4,h5⟩:=Good2.split hG.2.2 hj';refine ⟨e::pre,e',acc',by rw [h1];rfl,h2,h3,fun x hx=>?_,h5⟩;rcases List.mem_cons.1 hx with rfl | hx
      · rw [hG.1];exact hj'
      · exact h4 x hx
theorem Good2.at_ {ops:Array Oper} {tbl:List (List Nat)} {nb:List Nat} {hk:List (List Nat)} {H0:List (Nat × Blk)} {tm0:List (Nat × AV)} {ctr sz:Nat} {acc:List En} (hG:Good2 ty σ ops tbl nb hk H0 tm0 ctr sz acc) {e:En} (he:e∈acc) :
    e.j<acc.length ∧ ∃ (o:Oper) (out:Out),ops[e.j]? = some o∧e.ps=putT o.dst out.v []∧e.ef=out.eff∧keyOK tbl nb ctr e.j out.eff=true∧hidOK (hk.getD e.j []) out.eff=true:=by
  induction acc with
  | nil=>cases he
  | cons y acc ih =>
    rcases List.mem_cons.1 he with rfl | he
    · obtain ⟨h1,⟨o,out,h2,h3,h4,h5,h6,h7,h8⟩,_⟩:=hG;exact ⟨by simp;omega,o,out,h2,h4,h5,h7,h6.2⟩
    · obtain ⟨h1,h2⟩:=ih hG.2.2 he;exact ⟨by simp;omega,h2⟩
theorem wrB2_at {tbl:List (List Nat)} {nb:List Nat} {hk:List (List Nat)} {ctr:Nat}:∀ {he:List (Nat × List (Nat × Blk))},wrB2 tbl nb hk ctr he=true → ∀ x∈he,∀ y∈x.2,ownK ctr x.1 y.1=false → ∀ j∈nb,j ≠ x.1→ordB tbl x.1 j=true∨inL y.1 (hk.getD j [])=true
  | [],_,x,hx,_,_=>by cases hx
  | z::he,h,x,hx,y,h1=>by
    intro h2;simp only [wrB2,Bool.and_eq_true,Bool.or_eq_true] at h;rcases List.mem_cons.1 hx with rfl | hx
    · rcases h.1 with h3 | h3
      · have:=List.all_eq_true.1 h3 y h1;rw [h2] at this;cases this
      · intro j hj hne;have:=List.all_eq_true.1 h3 j hj;simp only [Bool.or_eq_true,beq_iff_eq] at this;rcases this with (h4 | h4) | h4
        · exact absurd h4 hne
        · exact .inl h4
        · have:=List.all_eq_true.1 h4 y h1;simp only [h2,Bool.false_or] at this;exact .inr this
    · exact wrB2_at h.2 x hx y h1 h2
theorem drawn2_ok (hT:TysOK P ty) (hσ:SgOK P σ) {ops:Array Oper} {Q:Exit→Act→World→Prop} {tbl:List (List Nat)} {nb:List Nat} {hk:List (List Nat)} (hdr:drB ops tbl nb=true) {s:St} {tm':List (Nat × AV)} {he':List (Nat × List (Nat × Blk))} {vc:Prop}
    (hev:evD2 ty σ (fun j=>(ops[j]?).bind (·.dst)) tbl nb hk s.H s.ctr s.sz ops.toList 0 s.tm []=some (tm',he',vc)) (hvc:vc) (hwr:wrB2 tbl nb hk s.ctr he'=true)
    (hQ:∀ a w,Rel X ⟨tm',allH he'++s.H,s.ctr+8*ops.size,s.sz⟩ a w→Q .normal a w) {a:Act} {w:World} (hR:Rel X s a w) :
    wpAny P .any ops Q ops.size (Array.replicate ops.size false) a w:=by
  obtain ⟨accN,hG,hlen,rfl,rfl⟩:=evD2_good (tm0:=s.tm) (H0:=s.H) ops.toList [] tm' he' vc trivial (fun i=>by simp) hev hvc;have hlen:accN.length=ops.size:=by simpa using hlen
  obtain ⟨S0,m0,hM0,ht0⟩:=hR.mem;have hdr':=hdr;simp only [drB,List.all_eq_true,Bool.and_eq_true] at hdr';have hz:∀ {j:Nat} {o:Oper},ops[j]? = some o→(o,j)∈ops.toList.zipIdx:=by
    intro j o ho;rw [List.mem_zipIdx_iff_getElem?];simpa using ho
  have D1:∀ (j:Nat) (o:Oper),ops[j]? = some o → ∀ e∈o.after,Region.binds .any e=true→e.on<j:=fun j o ho e he hb=>by
    have:=(hdr' (o,j) (hz ho)).1.1.1 e (by simpa using he);simpa [hb] using this
  have D2:∀ (j:Nat) (o:Oper),ops[j]? = some o → ∀ i∈tbl.getD j [],∃ e∈o.after,Region.binds .any e=true∧(e.on=i∨i∈tbl.getD e.on []):=fun j o ho i hi=>by
    have:=((hdr' (o,j) (hz ho)).1.1.2 i hi).1;simp only [List.any_eq_true,Bool.and_eq_true,Bool.or_eq_true,beq_iff_eq,inL_mem] at this;obtain ⟨e,h1,h2,h3⟩:=this;exact ⟨e,by simpa using h1,h2,h3⟩
  have D3:∀ (j:Nat) (o:Oper),ops[j]? = some o → ∀ i∈tbl.getD j [],∀ i'∈tbl.getD i [],i'∈tbl.getD j []:=fun j o ho i hi i' hi'=>by
    have:=((hdr' (o,j) (hz ho)).1.1.2 i hi).2 i' hi';exact inL_mem.1 this
  have D4:∀ (j:Nat) (o:Oper),ops[j]? = some o→j∈nb∨blind o.op=true:=fun j o ho=>by
    have:=(hdr' (o,j) (hz ho)).1.2;simpa [inL_mem] using this
  have D5:∀ (j:Nat) (o:Oper),ops[j]? = some o → ∀ (i:Nat) (o':Oper) (t:Tmp),ops[i]? = some o'→i ≠ j→o'.dst=some t→(t∈nm (fun j=>(ops[j]?).bind (·.dst)) o∨o.dst=some t)→i∈tbl.getD j []∨j∈tbl.getD i []:=fun j o ho i o' t ho' hne hd ht=>by
    have:=(hdr' (o,j) (hz ho)).2 (o',i) (hz ho');simp only [Bool.or_eq_true,beq_iff_eq,hd,Bool.not_eq_true',Bool.or_eq_false_iff] at this;rcases this with h | h | h
    · exact absurd h hne
    · exfalso;rcases ht with ht | ht
      · rw [inL_mem.2 ht] at h;simp at h
      · rw [ht] at h;simp at h
    · exact ordB_iff.1 h
  have hopsN:∀ j,j<ops.size → ∃ o,ops[j]? = some o:=fun j hj=>⟨_,Array.getElem?_eq_getElem hj⟩;have P2:∀ (j:Nat) (o:Oper),ops[j]? = some o → ∀ i∈tbl.getD j [],i<j:=by
    intro j;induction j using Nat.strongRecOn with
    | _ j ih =>
      intro o ho i hi;obtain ⟨e,h1,hb1,h3⟩:=D2 j o ho i hi;have hlt:=D1 j o ho e h1 hb1;rcases h3 with h3 | h3
      · omega
      · obtain ⟨o',ho'⟩:=hopsN e.on (by have:=(Array.getElem?_eq_some_iff.1 ho).1;omega);have:=ih e.on hlt o' ho' i h3;omega
  have P1:∀ (d:Nat→Bool),(∀ (j:Nat) (oj:Oper) (e:Edge),d j=true→ops[j]? = some oj→e∈oj.after→Region.binds .any e=true→d e.on=true) → ∀ (j:Nat) (o:Oper),ops[j]? = some o→(∀ e∈o.after,Region.binds .any e=true→d e.on=true) → ∀ i∈tbl.getD j [],d i=true:=by
    intro d hcl j;induction j using Nat.strongRecOn with
    | _ j ih =>
      intro o ho hpre i hi;obtain ⟨e,h1,h2,h3⟩:=D2 j o ho i hi;have hlt:=D1 j o ho e h1 h2;have hd:=hpre e h1 h2;rcases h3 with h3 | h3
      · rw [← h3];exact hd
      · obtain ⟨o',ho'⟩:=hopsN e.on (by have:=(Array.getElem?_eq_some_iff.1 ho).1;omega);exact ih e.on hlt o' ho' (fun e' he' hb=>hcl e.on o' e' hd ho' he' hb) i h3
  have kfact:∀ e∈accN,∀ x∈e.ef,ownK s.ctr e.j x.1=true∨(e.j∈nb∧(x.1<s.ctr∨(x.1-s.ctr) / 8∈tbl.getD e.j [])):=by
    intro e he x hx;obtain ⟨_,o,out,_,_,h3,h4,_⟩:=hG.at_ he;rw [h3] at hx;have:=List.all_eq_true.1 h4 x hx;simpa [inL_mem] using this
  have wfact:∀ e∈accN,∀ x∈e.ef,ownK s.ctr e.j x.1=false → ∀ j∈nb,j ≠ e.j→(e.j∈tbl.getD j []∨j∈tbl.getD e.j [])∨inL x.1 (hk.getD j [])=true:=by
    intro e he x hx ho j hj hne;exact (wrB2_at hwr (e.j,e.ef) (neE_mem he hx) x hx ho j hj hne).imp ordB_iff.1 id
  have opsOf:∀ e∈accN,∃ o,ops[e.j]? = some o:=fun e he=>by
    obtain ⟨_,o,_,h,_⟩:=hG.at_ he;exact ⟨o,h⟩
  let Inv:(Nat→Bool)→Act→World→Prop:=fun d a w=>a.tmps.size=s.sz∧a.defers=X.ex.df ∧ ∃ S m,Mem X (FH accN d++s.H) S m w∧TmR w S m (FT accN d++s.tm) a
  have hstep:∀ (d:Nat→Bool) (a:Act) (w:World) (j:Nat) (o:Oper),ops[j]? = some o→d j=false→(∀ e∈o.after,Region.binds .any e=true→d e.on=true) →
      (∀ (j:Nat) (oj:Oper) (e:Edge),d j=true→ops[j]? = some oj→e∈oj.after→Region.binds .any e=true→d e.on=true)→Inv d a w →
      ∀ K:Act→World→Prop,(∀ a' w',Inv (fun i=>i == j || d i) a' w'→K a' w')→if Region.wanted o (yielded ops a.tmps)=true then o.wp P a w K Q else K (a.put o.dst undef) w:=by
    intro d a w j o ho hdj hpre hcl hI K hK;obtain ⟨i1,i2,S,m,hM,ht⟩:=hI;have hj:j<accN.length:=by rw [hlen];exact (Array.getElem?_eq_some_iff.1 ho).1
    obtain ⟨pre,e,acc',hacc,hej,hGe,hpreg,hacclt⟩:=hG.split hj;obtain ⟨_,⟨o',out,ho',hout,hps,hef,⟨hd1,hh1⟩,hk1,hv1⟩,_⟩:=hGe;rw [hej] at ho' hout hk1 hh1;rw [ho] at ho';injection ho' with ho';subst ho';have hmem:e∈accN:=by rw [hacc];simp
    have hmem':∀ x∈acc',x∈accN:=fun x hx=>by rw [hacc];simp [hx]
    have hmemp:∀ x∈pre,x∈accN:=fun x hx=>by rw [hacc];simp [hx]
    have hd0:∀ i∈tbl.getD j [],d i=true:=P1 d hcl j o ho hpre;have hup:∀ (i:Nat) (oi:Oper),ops[i]? = some oi→d i=true→j ∉ tbl.getD i []:=fun i oi hoi hdi hji=>by
      have:=P1 d hcl i oi hoi (fun e he hb=>hcl i oi e hdi hoi he hb) j hji;rw [hdj] at this;cases this
    have psmem:∀ x∈accN,∀ t,(∃ p∈x.ps,p.1=t) → ∃ ox,ops[x.j]? = some ox∧ox.dst=some t:=by
      rintro x hx t ⟨p,hp,rfl⟩;obtain ⟨_,ox,outx,h2,h3,_⟩:=hG.at_ hx;rw [h3] at hp;refine ⟨ox,h2,?_⟩;cases hdx:ox.dst with
      | none=>rw [hdx] at hp;cases hp
      | some q=>rw [hdx] at hp;simp [putT] at hp;rw [hp]
    -- the slots
    have hT1:∀ t∈nm (fun j=>(ops[j]?).bind (·.dst)) o,gt (FT acc' (fun _=>true)++s.tm) t=gt (FT accN d++s.tm) t:=by
      intro t ht;unfold gt;congr 1
      have e1:lk (FT accN d++s.tm) t=lk (FT accN (fun i=>decide (i<j))++s.tm) t:=FT_congr _ _ _ _ _ fun x hx hk=>by
        obtain ⟨ox,hox,hdx⟩:=psmem x hx t hk;by_cases hxj:x.j=j
        · rw [hxj,hdj];simp
        · rcases D5 j o ho x.j ox t hox hxj hdx (.inl ht) with h | h
          · rw [hd0 _ h];have:=P2 j o ho _ h;simp [this]
          · have h1:=P2 _ ox hox _ h;have h2:d x.j=false:=by
              cases hq:d x.j with
              | false=>rfl
              | true=>exact absurd h (hup _ ox hox hq)
            rw [h2];simp;omega
      rw [e1,hacc,FT_app,List.append_assoc];refine Eq.trans ?_ (lk_skip (x:=FT pre fun i=>decide (i<j)) (fun p hp q=>?_)).symm
      · have e2:FT (e::acc') (fun i=>decide (i<j))=FT acc' (fun i=>decide (i<j)):=by simp [FT,hej]
        rw [e2];exact FT_congr _ _ _ _ _ fun x hx _=>by simp [hacclt x hx]
      · obtain ⟨x,hx,hdx,_⟩:=FT_mem hp;have:=hpreg x hx;simp at hdx;omega
    rw [evG_congr hT1] at hout;-- the blocks
    have hAg:Ag (hid (hk.getD j []) (FH acc' (fun i=>inL i (tbl.getD j []))++s.H)) (FH accN d++s.H)∨blind o.op=true:=by
      rcases D4 j o ho with hnb | hb
      · left;intro k b hk;obtain ⟨hk,hkn⟩:=lk_hid hk;have e1:lk (FH accN (fun i=>inL i (tbl.getD j []))++s.H) k=some b:=by
          rw [hacc,FH_app,List.append_assoc,lk_skip (fun p hp q=>?_)]
          · have:inL e.j (tbl.getD j [])=false:=by
              cases hq:inL e.j (tbl.getD j []) with
              | false=>rfl
              | true=>have:=P2 j o ho _ (inL_mem.1 hq);omega
            simp only [FH,List.flatMap_cons,this,Bool.false_eq_true,if_false,List.nil_append];exact hk
          · obtain ⟨x,hx,hdx,_⟩:=FH_mem hp;have h1:=P2 j o ho _ (inL_mem.1 hdx);have:=hpreg x hx;omega
        rw [← e1];refine FH_congr _ _ _ _ _ fun x hx hkx=>?_;cases hq:inL x.j (tbl.getD j []) with
        | true=>exact hd0 _ (inL_mem.1 hq)
        | false =>
          cases hdx:d x.j with
          | false=>rfl
          | true =>
            exfalso;have hnp:x.j ∉ tbl.getD j []:=fun h=>by rw [inL_mem.2 h] at hq;cases hq
            obtain ⟨y,hy,rfl⟩:=hkx;obtain ⟨ox,hox⟩:=opsOf x hx;have hne:j ≠ x.j:=fun h=>by rw [← h,hdj] at hdx;cases hdx
            cases hown:ownK s.ctr x.j y.1 with
            | false =>
              rcases wfact x hx y hy hown j hnb hne with (h | h) | h
              · exact hnp h
              · exact hup _ ox hox hdx h
              · rw [hkn] at h;cases h
            | true =>
              simp only [ownK,Bool.and_eq_true,decide_eq_true_eq] at hown;have hnone:lk s.H y.1=none:=hR.kl _ (by omega);rw [lk_append,hnone] at e1;cases hfx:lk (FH accN (fun i=>inL i (tbl.getD j []))) y.1 with
              | none=>rw [hfx] at e1;cases e1
              | some b' =>
                obtain ⟨x',hx',hdx',hm'⟩:=FH_mem (lk_mem hfx);have hpx':=inL_mem.1 hdx';have hne':x'.j ≠ x.j:=fun h=>hnp (h ▸ hpx');rcases kfact x' hx' _ hm' with h | ⟨_,h | h⟩
                · simp only [ownK,Bool.and_eq_true,decide_eq_true_eq] at h;omega
                · simp only at h;omega
                · have:(y.1-s.ctr) / 8=x.j:=by omega
                  simp only [this] at h;exact hnp (D3 j o ho _ hpx' _ h)
      · exact .inr hb
    have hout':=evG_mono hAg hout;have hfr:∀ i,i<8→lk (FH accN d++s.H) (s.ctr+8*j+i)=none:=by
      intro i hi;rw [lk_append,lk_none_of fun x hx q=>?_]
      · exact hR.kl _ (by omega)
      · obtain ⟨y,hy,hdy,hm⟩:=FH_mem hx;obtain ⟨oy,hoy⟩:=opsOf y hy;have hne:y.j ≠ j:=fun h=>by rw [h,hdj] at hdy;cases hdy
        rcases kfact y hy x hm with h | ⟨_,h | h⟩
        · simp only [ownK,Bool.and_eq_true,decide_eq_true_eq] at h;omega
        · omega
        · have:(x.1-s.ctr) / 8=j:=by omega
          rw [this] at h;exact hup _ oy hoy hdy h
    refine evG_ok hT hσ hM ht hfr hout' hv1 fun v w' hL=>hK _ _ ?_;obtain ⟨S',m',q1,q2,q3⟩:=hL;have hTm:=put_tm (d:=o.dst) (ht.adv q1) (fun t ht=>by rw [i1];exact dOK_at hd1 t ht) q3;have hdisT:∀ x∈putT o.dst out.v [],∀ y∈FT pre d,x.1 ≠ y.1:=by
      intro x hx y hy q;obtain ⟨z,hz,hdz,hm⟩:=FT_mem hy;obtain ⟨oz,hoz,hdt⟩:=psmem z (hmemp z hz) y.1 ⟨y,hm,rfl⟩;have hgt:=hpreg z hz;have hod:o.dst=some y.1:=by
        cases hdo:o.dst with
        | none=>rw [hdo] at hx;cases hx
        | some t=>rw [hdo] at hx;simp [putT] at hx;rw [← q,hx]
      rcases D5 j o ho z.j oz y.1 hoz (by omega) hdt (.inr hod) with h | h
      · have:=P2 j o ho _ h;omega
      · exact hup _ oz hoz hdz h
    have hdisH:∀ x∈out.eff,∀ y∈FH pre d,x.1 ≠ y.1:=by
      intro x hx y hy q;obtain ⟨z,hz,hdz,hm⟩:=FH_mem hy;obtain ⟨oz,hoz⟩:=opsOf z (hmemp z hz);have hgt:=hpreg z hz;have hnotj:j ∉ tbl.getD z.j []:=hup _ oz hoz hdz;have hnotz:z.j ∉ tbl.getD j []:=fun h=>by have:=P2 j o ho _ h;omega
      rw [← hef] at hx;have hxk:=kfact e hmem x hx;have hyk:=kfact z (hmemp z hz) y hm;rw [hej] at hxk;cases hox:ownK s.ctr j x.1 with
      | true =>
        have hox':=hox;simp only [ownK,Bool.and_eq_true,decide_eq_true_eq] at hox';rcases hyk with h | ⟨_,h | h⟩
        · simp only [ownK,Bool.and_eq_true,decide_eq_true_eq] at h;omega
        · omega
        · have:(y.1-s.ctr) / 8=j:=by omega
          rw [this] at h;exact hnotj h
      | false =>
        rcases hxk with h | ⟨hjn,h⟩
        · rw [hox] at h;cases h
        · cases hoy:ownK s.ctr z.j y.1 with
          | false =>
            rcases wfact z (hmemp z hz) y hm hoy j hjn (by omega) with (h' | h') | h'
            · exact hnotz h'
            · exact hnotj h'
            · rw [hef] at hx;have:=List.all_eq_true.1 hh1 x hx;rw [q,h'] at this;cases this
          | true =>
            simp only [ownK,Bool.and_eq_true,decide_eq_true_eq] at hoy;rcases h with h | h
            · omega
            · have:(x.1-s.ctr) / 8=z.j:=by omega
              rw [this] at h;exact hnotz h
    have hd':∀ (acc:List En),(∀ x∈acc,x.j ≠ j)→FT acc (fun i=>i == j || d i)=FT acc d∧FH acc (fun i=>i == j || d i)=FH acc d:=by
      intro acc hx;have:∀ x∈acc,(x.j == j || d x.j)=d x.j:=fun x hxm=>by have:=hx x hxm;simp [this]
      constructor
      · simp only [FT];exact flatMap_cg fun x hxm=>by simp only [this x hxm]
      · simp only [FH];exact flatMap_cg fun x hxm=>by simp only [this x hxm]
    have hp1:=hd' pre fun x hx=>by have:=hpreg x hx;omega
    have hp2:=hd' acc' fun x hx=>by have:=hacclt x hx;omega
    refine ⟨by rw [put_size];exact i1,by rw [put_defers];exact i2,S',m',q2.congr fun k=>?_,fun t=>?_⟩
    · rw [hacc,FH_app,FH_app,hp1.2];simp only [FH,List.flatMap_cons,hej,hdj,Bool.false_eq_true,if_false,List.nil_append,BEq.rfl,Bool.true_or,if_true,List.append_assoc];rw [hef];have:=(hp2.2);simp only [FH] at this;rw [this];exact lk_swap _ _ _ _ hdisH
    · have h1:=hTm t;have h2:gt (putT o.dst out.v (FT accN d++s.tm)) t=gt (FT accN (fun i=>i == j || d i)++s.tm) t:=by
        unfold gt;congr 1
        rw [putT_app,hacc,FT_app,FT_app,hp1.1];simp only [FT,List.flatMap_cons,hej,hdj,Bool.false_eq_true,if_false,List.nil_append,BEq.rfl,Bool.true_or,if_true,List.append_assoc];rw [hps];have:=(hp2.1);simp only [FT] at this;rw [this];exact lk_swap _ _ _ _ hdisT
      rw [← h2];exact h1
  have hfin:∀ (d:Nat→Bool) (a:Act) (w:World),(∀ i,i<ops.size→d i=true)→Inv d a w→Q .normal a w:=by
    intro d a w hd hI;obtain ⟨i1,i2,S,m,hM,ht⟩:=hI;have hall:∀ x∈accN,d x.j=true:=fun x hx=>hd _ (by have:=(hG.at_ hx).1;omega);have e1:FT accN d=FT accN (fun _=>true):=flatMap_cg fun x hx=>by rw [hall x hx]
    have e2:FH accN d=FH accN (fun _=>true):=flatMap_cg fun x hx=>by rw [hall x hx]
    rw [e2] at hM;rw [e1] at ht;refine hQ a w ⟨i1,i2,fun k hk=>?_,S,m,?_,ht⟩
    · simp only at hk ⊢
      rw [allH_neE,lk_append,lk_none_of fun x hx q=>?_]
      · exact hR.kl _ (by omega)
      · obtain ⟨y,hy,_,hm⟩:=FH_mem hx;have hyl:=(hG.at_ hy).1;obtain ⟨oy,hoy⟩:=opsOf y hy;rcases kfact y hy x hm with h | ⟨_,h | h⟩
        · simp only [ownK,Bool.and_eq_true,decide_eq_true_eq] at h;omega
        · omega
        · have:=P2 _ oy hoy _ h;omega
    · simp only
      rw [allH_neE];exact hM
  have h0:Inv (fun i=>(Array.replicate ops.size false).getD i false) a w:=by
    have hf:∀ i,(Array.replicate ops.size false).getD i false=false:=by
      intro i;simp [Array.getD_eq_getD_getElem?,Array.getElem?_replicate];split <;> rfl
    have e1:FT accN (fun i=>(Array.replicate ops.size false).getD i false)=[]:=by simp only [FT,hf];simp
    have e2:FH accN (fun i=>(Array.replicate ops.size false).getD i false)=[]:=by simp only [FH,hf];simp
    refine ⟨hR.size,hR.defers,S0,m0,?_,?_⟩
    · rw [e2];exact hM0
    · rw [e1];exact ht0
  -- the run over all orders
  have hloop:∀ (fuel:Nat) (listed:Array Bool) (a:Act) (w:World),listed.size=ops.size→(List.range ops.size).countP (fun i=>!(listed.getD i false))≤fuel →
      (∀ (j:Nat) (oj:Oper) (e:Edge),listed.getD j false=true→ops[j]? = some oj→e∈oj.after→Region.binds .any e=true→listed.getD e.on false=true) →
      Inv (fun i=>listed.getD i false) a w→wpAny P .any ops Q fuel listed a w:=by
    have hall:∀ listed:Array Bool,listed.size=ops.size→Region.ready .any ops listed=[] → ∀ i,i<ops.size→listed.getD i false=true:=by
      intro listed hsz hr i;induction i using Nat.strongRecOn with
      | _ i ih =>
        intro hi;cases hd:listed.getD i false with
        | true=>rfl
        | false =>
          exfalso;obtain ⟨o,ho⟩:=hopsN i hi;have:i∈Region.ready .any ops listed:=by
            refine mem_ready.2 ⟨?_,o,ho,fun e hee hbe=>ih e.on (D1 i o ho e hee hbe) (by have:=D1 i o ho e hee hbe;omega)⟩;have hlt:i<listed.size:=by omega
            simpa [hlt] using hd
          rw [hr] at this;cases this
    intro fuel;induction fuel with
    | zero =>
      intro listed a w hsz hu _ hI;have hl:∀ i,i<ops.size→listed.getD i false=true:=by
        intro i hi;cases hd:listed.getD i false with
        | true=>rfl
        | false =>
          exfalso;have h0:0<(List.range ops.size).countP (fun i=>!(listed.getD i false)):=List.countP_pos_iff.2 ⟨i,List.mem_range.2 hi,by simp [hd]⟩;omega
      refine ⟨?_,hfin _ a w hl hI⟩;apply List.eq_nil_iff_forall_not_mem.2
      intro j hj;obtain ⟨h1,o,ho,_⟩:=mem_ready.1 hj;have hjl:j<ops.size:=(Array.getElem?_eq_some_iff.1 ho).1;have h2:=hl j hjl;have hlt:j<listed.size:=by omega
      simp [hlt] at h1 h2;rw [h1] at h2;cases h2
    | succ fuel ih =>
      intro listed a w hsz hu hcl hI;refine ⟨fun h0=>hfin _ a w (hall listed hsz h0) hI,fun i hi=>?_⟩;obtain ⟨h1,o,ho,hpre⟩:=mem_ready.1 hi;have hil:i<ops.size:=(Array.getElem?_eq_some_iff.1 ho).1;have hlt:i<listed.size:=by omega
      have hdi:listed.getD i false=false:=by simpa [hlt] using h1
      have hset:∀ j,(listed.setIfInBounds i true).getD j false=(j == i || listed.getD j false):=by
        intro j;by_cases hji:j=i
        · subst hji;simp [hlt]
        · rw [getD_set_ne false (fun e=>hji e.symm)];simp [hji]
      have hcont:∀ a' w',Inv (fun j=>j == i || listed.getD j false) a' w'→wpAny P .any ops Q fuel (listed.setIfInBounds i true) a' w':=by
        intro a' w' hI';refine ih _ a' w' (by simpa using hsz) ?_ ?_ ?_
        · have:(List.range ops.size).countP (fun j=>!((listed.setIfInBounds i true).getD j false))<(List.range ops.size).countP (fun j=>!(listed.getD j false)):=by
            refine countP_lt' (fun x hx=>?_) (List.mem_range.2 hil) (by simp [hdi]) (by rw [hset];simp);rw [hset] at hx;simp only [Bool.not_eq_true',Bool.or_eq_false_iff] at hx ⊢;exact hx.2
          omega
        · intro j oj e hj hoj he hb;rw [hset] at hj ⊢;simp only [Bool.or_eq_true,beq_iff_eq] at hj ⊢;rcases hj with rfl | hj
          · rw [ho] at hoj;injection hoj with hoj;subst hoj;exact .inr (hpre e he hb)
          · exact .inr (hcl j oj e hj hoj he hb)
        · have:(fun j=>(listed.setIfInBounds i true).getD j false)=fun j=>(j == i || listed.getD j false):=funext hset;rw [this];exact hI'
      have hs:=hstep _ a w i o ho hdi hpre hcl hI _ hcont;unfold wpOp;simp only [ho];split
      · rename_i hw;rw [if_pos hw] at hs;exact .inl hs
      · rename_i hw;rw [if_neg hw] at hs;exact hs
  refine hloop ops.size _ a w (by simp) (Nat.le_trans List.countP_le_length (by simp)) (fun j oj e hj hoj _ _=>?_) h0;exfalso;have hjl:j<ops.size:=(Array.getElem?_eq_some_iff.1 hoj).1;simp [hjl] at hj
def EvD2 (ty:Ty) (σ:Sg) (gd:Nat→Option Tmp) (tbl:List (List Nat)) (nb:List Nat) (hk:List (List Nat)) (l:List Oper) (n:Nat) (s:St) (K:St→Prop):Prop :=
  match evD2 ty σ gd tbl nb hk s.H s.ctr s.sz l 0 s.tm [] with
  | some (tm',he',vc)=>wrB2 tbl nb hk s.ctr he'=true∧vc∧K ⟨tm',allH he'++s.H,s.ctr+8*n,s.sz⟩
  | none=>False
theorem WA.drawn2 (hm:P.follows .mixedOrders=true) (hT:TysOK P ty) (hσ:SgOK P σ) {Q:Exit→Act→World→Prop} {s:St} {id:Nat} {l:List Oper} {tbl:List (List Nat)} {nb:List Nat} {hk:List (List Nat)} (hdr:drB l.toArray tbl nb=true)
    (h:∀ K:St→Prop,(∀ s',(∀ a w,Rel X s' a w→Q .normal a w)→K s')→EvD2 ty σ (fun j=>(l[j]?).bind (·.dst)) tbl nb hk l l.length s K):WA P X (.region id l.toArray true) Q s:=by
  intro a w hR;have h1:=h (fun s'=>∀ a w,Rel X s' a w→Q .normal a w) (fun _ h=>h);unfold EvD2 at h1;split at h1
  · rename_i tm' he' vc he;obtain ⟨q1,q2,q3⟩:=h1;refine wp_region_any hm (drawn2_ok (X:=X) (s:=s) hT hσ hdr (vc:=vc) (tm':=tm') (he':=he') ?_ q2 q1 (by simpa using q3) (Rel.drew hR));rw [← he];congr 1
    funext j
    simp
  · exact h1.elim
theorem WA.drawnH (hm:P.follows .mixedOrders=true) (hT:TysOK P ty) (hσ:SgOK P σ) {Q:Exit→Act→World→Prop} {s:St} {id:Nat} {l:List Oper} {y:Code} {tbl:List (List Nat)} {nb:List Nat} {hk:List (List Nat)} (hdr:drB l.toArray tbl nb=true)
    (h:∀ K:St→Prop,(∀ s',WA P X y Q s'→K s')→EvD2 ty σ (fun j=>(l[j]?).bind (·.dst)) tbl nb hk l l.length s K):WA P X (.seq (.region id l.toArray true) y) Q s :=
  WA.seq (WA.drawn2 hm hT hσ hdr fun K hK=>h K fun s' hs=>hK s' hs)
end
attribute [go_sem] hid hidOK wrB2 evD2 EvD2
def RdF (l:Nat):Fence:=Fence.wide.inRound l
def ndO (o:Oper):Bool :=
  match o.op with
  | .defer _=>false
  | _=>true
section
variable {P:Program} {ty:Ty} {X:Cx} {σ:Sg} {Q:Exit→Act→World→Prop} {l:Nat}
theorem rows_in {row:String} {args:Array Value} {w:World} {R:Value→World→Prop} (h:Rows P row args w R):RowsIn (RdF l) 0 P row args w R:=fun c cs _=>by
  obtain ⟨v,w',r,s⟩:=h c cs;exact ⟨v,w',r,stepsIn_wide.2 s⟩
theorem calls_in {f:FuncId} {args:Array Value} {w:World} {R:Ending→World→Prop} (h:Calls P f args w R) (n:Nat):CallsIn (RdF l) n P f args w R:=(callsIn_wide (n:=n)).2 h
theorem oper_in {o:Oper} {a:Act} {w:World} {K:Act→World→Prop} (hd:ndO o=true) (h:o.wp P a w K Q):o.wpIn (RdF l) 0 P a w K Q:=by
  refine ⟨fun _ _=>trivial,?_⟩;have e:o.semAt (RdF l).round a.eval=execOp a.eval o:=Oper.semAt_some l a.eval o fun c hc=>by
    unfold ndO at hd;rw [hc] at hd;cases hd
  rw [e];unfold Oper.wp at h;revert h;generalize (execOp a.eval o).run P w=r;intro h;cases r with
  | ok x w' =>
    cases x with
    | enter f args=>exact ⟨fun q=>absurd q (by simp [RdF,Fence.wide,Fence.inRound]),calls_in h _⟩
    | row r args=>exact ⟨fun q=>absurd q (by simp [RdF,Fence.wide,Fence.inRound]),rows_in h⟩
    | round=>exact h.elim
    | _=>exact h
  | halt x w'=>cases x <;> exact h
theorem list_in {ops:Array Oper} (hQ:¬ LetsOut Q):∀ (r:List Oper) (a:Act) (w:World),r.all ndO=true→wpList P ops Q r a w→wpListIn (RdF l) 0 P ops Q r a w
  | [],_,_,_,h=>h
  | o::r,a,w,hd,h=>by
    rw [List.all_cons,Bool.and_eq_true] at hd;unfold wpListIn;unfold wpList at h;split at h
    · rename_i hw;rw [if_pos hw];rcases h with h | h
      · exact oper_in hd.1 (Oper.wp_mono (fun a w q=>list_in hQ r a w hd.2 q) h)
      · exact (hQ h.2).elim
    · rename_i hw;rw [if_neg hw];exact ⟨fun _ _=>trivial,list_in hQ r _ w hd.2 h⟩
theorem ops_in {ops:Array Oper} (hQ:¬ LetsOut Q) (hd:ops.toList.all ndO=true):∀ (r:List Nat) (a:Act) (w:World),wpOps P ops Q r a w→wpOpsIn (RdF l) 0 P ops Q r a w
  | [],_,_,h=>h
  | i::r,a,w,h=>by
    unfold wpOpsIn;unfold wpOps at h;cases ho:ops[i]? with
    | none =>
      rw [ho] at h;exact ops_in hQ hd r a w h
    | some o =>
      rw [ho] at h;have hm:ndO o=true:=List.all_eq_true.1 hd o (by rw [Array.mem_toList_iff];exact Array.mem_of_getElem? ho);simp only at h ⊢
      split at h
      · rename_i hw;rw [if_pos hw];rcases h with h | h
        · exact oper_in hm (Oper.wp_mono (fun a w q=>ops_in hQ hd r a w q) h)
        · exact (hQ h.2).elim
      · rename_i hw;rw [if_neg hw];exact ⟨fun _ _=>trivial,ops_in hQ hd r _ w h⟩
def WR (P:Program) (l:Nat) (X:Cx) (c:Code) (Q:Exit→Act→World→Prop) (s:St):Prop:=∀ a w,Rel X s a w→c.wpIn (RdF l) 0 P Q a w
theorem WR.skip {s:St} (h:WN X Q s):WR P l X .skip Q s:=fun a w hR=>wpIn_skip (h a w hR)
theorem WR.region {s s':St} {id:Nat} {ops:Array Oper} {vc:Prop} (hT:TysOK P ty) (hσ:SgOK P σ) (hQ:¬ LetsOut Q) (hd:ops.toList.all ndO=true) (h:evL ty σ (fun j=>(ops[j]?).bind (·.dst)) ops.toList s=some (s',vc)) (hvc:vc) (hN:WN X Q s'):WR P l X (.region id ops false) Q s :=
  fun a w hR=>wpIn_region_list (list_in hQ _ a w hd (evL_ok hT hσ _ s s' vc a w h hvc hR hN))
theorem WR.regionE {s:St} {id:Nat} {r:List Oper} (hT:TysOK P ty) (hσ:SgOK P σ) (hQ:¬ LetsOut Q) (hd:r.all ndO=true) (h:∀ K:St→Prop,(∀ s',WN X Q s'→K s')→EvR ty σ (fun j=>(r[j]?).bind (·.dst)) r s K):WR P l X (.region id r.toArray false) Q s:=by
  have h1:=h (fun s'=>WN X Q s') (fun _ h=>h);unfold EvR at h1;split at h1
  · rename_i s' vc he;refine WR.region hT hσ (vc:=vc) (s':=s') hQ hd ?_ h1.1 h1.2;rw [← he];congr 1
    funext j
    simp
  · exact h1.elim
theorem WR.seq {s:St} {x y:Code} (h:WR P l X x (Exit.then (fun a w=>y.wpIn (RdF l) 0 P Q a w) Q) s):WR P l X (.seq x y) Q s:=fun a w hR=>wpIn_seq (h a w hR)
theorem WR.regionK {s:St} {id:Nat} {r:List Oper} {y:Code} (hT:TysOK P ty) (hσ:SgOK P σ) (hQ:¬ LetsOut Q) (hd:r.all ndO=true) (h:∀ K:St→Prop,(∀ s',WR P l X y Q s'→K s')→EvR ty σ (fun j=>(r[j]?).bind (·.dst)) r s K):WR P l X (.seq (.region id r.toArray false) y) Q s :=
  WR.seq (WR.regionE hT hσ (fun q=>hQ q) hd fun K hK=>h K fun s' hs=>hK s' hs)
theorem WR.drawn2 (hm:P.follows .mixedOrders=true) (hT:TysOK P ty) (hσ:SgOK P σ) {s:St} {id:Nat} {r:List Oper} {tbl:List (List Nat)} {nb:List Nat} {hk:List (List Nat)} (hQ:¬ LetsOut Q) (hd:r.all ndO=true) (hdr:drB r.toArray tbl nb=true)
    (h:∀ K:St→Prop,(∀ s',WN X Q s'→K s')→EvD2 ty σ (fun j=>(r[j]?).bind (·.dst)) tbl nb hk r r.length s K):WR P l X (.region id r.toArray true) Q s:=by
  intro a w hR;have h1:=h (fun s'=>WN X Q s') (fun _ h=>h);unfold EvD2 at h1;split at h1
  · rename_i tm' he' vc he;obtain ⟨q1,q2,q3⟩:=h1;refine wpIn_region_draw fun t=>?_;have hw:=drawn2_ok (X:=X) (s:=s) (Q:=Q) hT hσ hdr (vc:=vc) (tm':=tm') (he':=he') (by
      rw [← he];congr 1
      funext j
      simp) q2 q1 (fun a w hR=>q3 a w (by simpa using hR)) (Rel.drew hR)
    simp only [Region.schedule,hm,Bool.true_or,if_true];exact ops_in hQ hd _ _ _ (wpAny_sound _ t _ a _ hw)
  · exact h1.elim
theorem WR.drawnK (hm:P.follows .mixedOrders=true) (hT:TysOK P ty) (hσ:SgOK P σ) {s:St} {id:Nat} {r:List Oper} {y:Code} {tbl:List (List Nat)} {nb:List Nat} {hk:List (List Nat)} (hQ:¬ LetsOut Q) (hd:r.all ndO=true) (hdr:drB r.toArray tbl nb=true)
    (h:∀ K:St→Prop,(∀ s',WR P l X y Q s'→K s')→EvD2 ty σ (fun j=>(r[j]?).bind (·.dst)) tbl nb hk r r.length s K):WR P l X (.seq (.region id r.toArray true) y) Q s :=
  WR.seq (WR.drawn2 hm hT hσ (fun q=>hQ q) hd hdr fun K hK=>h K fun s' hs=>hK s' hs)
theorem WR.block {s:St} {id:Nat} {c:Code} (h:WR P l X c (Exit.inBlock id Q) s):WR P l X (.block id c) Q s:=fun a w hR=>wpIn_block (h a w hR)
end
end Go.TravelAbs
namespace Go.TravelAbs
open Go.RowKit Go.TravelBase Go.Shelf Go.Proofs
def piece (n:Nat) (bs:List UInt8) (i:Nat):List UInt8:=(bs.drop (i*n)).take n
def pieces (n:Nat) (bs:List UInt8) (k:Nat):List (List UInt8):=(List.range k).map (piece n bs)
theorem pieces_succ (n:Nat) (bs:List UInt8) (k:Nat):pieces n bs (k+1)=pieces n bs k++[piece n bs k]:=by simp [pieces,List.range_succ]
theorem piece_len {n:Nat} {bs:List UInt8} {k i:Nat} (h:bs.length=k*n) (hi:i<k):(piece n bs i).length=n:=by
  have:(i+1)*n≤k*n:=Nat.mul_le_mul_right _ hi;rw [Nat.add_mul] at this;simp [piece];omega
structure Pc (w:World) (S:CSet) (n:Nat) where
  v:Value
  bs:List UInt8
  len:bs.length=n
  vr:∀ m,VR w S m (.by_ bs) v
def KpS (S:CSet) (A B:World):Prop:=∀ b o v,S b o→A.cell? ⟨b,o,none⟩=some v→B.cell? ⟨b,o,none⟩=some v
theorem KpS.trans {S:CSet} {A B C:World} (h:KpS S A B) (k:KpS S B C):KpS S A C:=fun b o v hs q=>k b o v hs (h b o v hs q)
theorem KpS.putO {S:CSet} (W:World) (l:Nat) (o o':Obj) (h:W.heap[l]? = some o) (hc:o.isCells=false):KpS S W (W.putObj l o'):=fun b q v hs hv=>by
  by_cases e:b=l
  · subst e;unfold World.cell? at hv;rw [h] at hv;cases o <;> first | (cases hc;done) | cases hv
  · exact (World.cell?_of_block (World.putObj_heap_other e)).trans hv
theorem chunk_stops (N:Nat) (w:World) (S:CSet) (hS:∀ b o,S b o→b<w.heap.size) (n k:Nat) (hn:0<n) (bs:List UInt8) (hl:bs.length=k*n) (hmax:bs.length+n≤9223372036854775807) (u1 u2:Value)
    (h1:∀ m,VR w S m (.ep (.by_ bs) 0) u1) (h2:∀ m,VR w S m (.ep (.lit (.int .i64 n)) 0) u2) :
    SeqStopsK Fence.wide (N+2) Tryz.prog 133 #[u1,u2] (fun x:Pc w S n=>#[x.v]) (KpS S) (fun xs=>xs.map (·.bs)=pieces n bs k) (fun _=>True) k w:=by
  intro l J Jx W hW hJ hJx hY h0;obtain ⟨g1,o1,v1,rfl,s1,c1,hv1⟩:∃ g1 o1 v1,u1 = .pointer (some ⟨g1,o1,none⟩)∧S g1 o1∧w.cell? ⟨g1,o1,none⟩=some v1∧VR w S (fun _=>none) (.by_ bs) v1:=by
    cases h1 (fun _=>none) with
    | ep us hA hB =>
      rename_i b o;obtain ⟨q1,q2⟩:=hA 0 (by simp [AV.cl]);exact ⟨b,o,us 0,rfl,q1,q2,hB 0 _ rfl⟩
  obtain ⟨g2,o2,rfl,s2,c2⟩:∃ g2 o2,u2 = .pointer (some ⟨g2,o2,none⟩)∧S g2 o2∧w.cell? ⟨g2,o2,none⟩=some (.int .i64 n):=by
    cases h2 (fun _=>none) with
    | ep us hA hB =>
      rename_i b o;obtain ⟨q1,q2⟩:=hA 0 (by simp [AV.cl]);have:=(hB 0 _ rfl).lit_inv;rw [Nat.add_zero] at q2;exact ⟨b,o,rfl,q1,by rw [q2,this]⟩
  obtain ⟨A,L,c,rfl,hL,hLc,hcut⟩:=hv1.by_cut;have hcell:∀ {W':World},KpS S w W'→W'.cell? ⟨g1,o1,none⟩=some (.slice A L c)∧W'.cell? ⟨g2,o2,none⟩=some (.int .i64 n):=fun h=>⟨h _ _ _ s1 c1,h _ _ _ s2 c2⟩;have hW0:KpS S w W:=fun b o v hs hv=>(hW.cell (hS b o hs)).trans hv;refine callsIn_of_wp Tryz.func133 rfl trivial ?_;simp only [Tryz.ntmps133,List.size_toArray,List.length_cons,List.length_nil,Nat.reduceAdd,Nat.reduceSub,Array.replicate_succ,Array.replicate_zero,List.push_toArray,List.append_toArray,List.nil_append,List.cons_append];gi_wp2
  gi_loopw [4] (fun p wr=>∃ (pre:List (Pc w S n)) (q:Nat),p = .int .i64 (q:Int)∧pre.length*n=q∧pre.length≤k∧pre.map (·.bs)=pieces n bs pre.length∧J pre wr∧KpS S w wr)
    (fun p _=>(L+n-(intOf p)).toNat)
  case atStart =>
    exact ⟨[],0,by simp,by simp,Nat.zero_le _,rfl,h0,hW0⟩
  case round =>
    obtain ⟨pre,q,rfl,hq,hk,hp,hJs,hK⟩:=hrel;obtain ⟨d1,d2⟩:=hcell hK;rcases Nat.lt_or_ge pre.length k with hlt | hge
    · have hqn:q+n≤L:=by
        have:=Nat.mul_le_mul_right n hlt;rw [Nat.succ_mul] at this;omega
      have z1:(q:Int)<(L:Int):=by omega
      have z2:(0:Int)≤(q:Int):=by omega
      have z3:(q:Int)≤(L:Int):=by omega
      have z4:(L:Int)≤(c:Int):=by omega
      have hmix:Tryz.prog.follows .mixedOrders=true:=by kernel_rfl
      have hx:∀ m,VR w S m (.by_ (piece n bs pre.length)) (.slice (A.map (fun x=>x.add q)) n n):=fun m=>by
        have h3:=hcut q (q+n) (q+n) (by omega) (Nat.le_refl _) hqn;rw [if_neg (by omega),show q+n-q=n by omega,List.drop_take,show q+n-q=n by omega] at h3;simp only [Nat.mul_one] at h3;have h4:=Tr.by_ _ _ _ _ _ h3 m;rw [← hq] at h4 ⊢;exact h4
      have hJd:J pre wr.drew:=hJ pre wr wr.drew none hJs ⟨rfl,rfl,rfl,Nat.le_refl _,fun _ _ _=>rfl⟩ (fun _ e=>by cases e);obtain ⟨pc,pv,pb⟩:∃ pc:Pc w S n,pc.v = .slice (A.map (fun x=>x.add q)) n n∧pc.bs=piece n bs pre.length:=⟨⟨_,_,piece_len hl hlt,hx⟩,rfl,rfl⟩;obtain ⟨fn,tmps,assign,body,hy,hR⟩:=hY pre pc wr.drew hJd hlt;rw [pv] at hy;have y1:L-q ≥ n:=by omega
      gi_wp2
      gi_region
      all_goals gi_wp2
      refine hR.mono ?_;rintro e W' (⟨rfl,hJ',hk'⟩ | ⟨rfl,hJx'⟩)
      · have hK':KpS S w W':=KpS.trans hK hk';obtain ⟨e1,e2⟩:=hcell hK';have z5:(q:Int)+(n:Int)≤9223372036854775807:=by omega
        clear hR hy;gi_wp2
        refine ⟨⟨_,q+n,by rw [Int.natCast_add],?_,?_,?_,hJ',hK'⟩,?_⟩
        · rw [List.length_append,List.length_singleton,Nat.add_mul,hq,Nat.one_mul]
        · rw [List.length_append,List.length_singleton];omega
        · rw [List.length_append,List.length_singleton,List.map_append,hp,pieces_succ,List.map_singleton,pb]
        · simp only [intOf];omega
      · clear hR hy;gi_wp2
        exact ⟨rfl,_,by simp [results];rfl,⟨_,rfl⟩,.inr ⟨_,trivial,hJx'⟩⟩
    · have hqL:q=L:=by
        have:pre.length=k:=by omega
        rw [← hq,this,← hl,hL]
      have z1:¬ (q:Int)<(L:Int):=by omega
      gi_wp2
      refine ⟨rfl,_,by simp [results];rfl,⟨_,rfl⟩,.inl ⟨pre,?_,hJs⟩⟩;rw [hp,show pre.length=k by omega]
end Go.TravelAbs
