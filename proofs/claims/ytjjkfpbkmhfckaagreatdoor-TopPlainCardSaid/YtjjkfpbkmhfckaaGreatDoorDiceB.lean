import Derived.Test.YtjjkfpbkmhfckaaGreatDoorK06
import Derived.Test.YtjjkfpbkmhfckaaGreatDoorK09
set_option linter.unusedVariables false
set_option linter.unusedSimpArgs false
set_option maxHeartbeats 1000000
set_option maxRecDepth 10000
namespace Go.Proofs.YtjjkfpbkmhfckaaGreatDoor
open Go.RowKit Go.TravelBase Go.TravelAbs
theorem cvM_app {pre post:List AV} (h:∀ x∈pre,∀ H,cvX H x=some (x,[],True)) (H:List (Nat × Blk)):cvM H (pre++post)=(cvM H post).map fun t=>(pre++t.1,t.2.1,t.2.2):=by
  induction pre generalizing H with
  | nil=>cases h:cvM H post <;> simp [h]
  | cons x r ih =>
    have h1:=h x (by simp) H;have h2:=ih (fun y hy=>h y (by simp [hy])) H;simp only [List.cons_append,cvM,h1,List.nil_append,h2];cases cvM H post with
    | none=>rfl
    | some t=>obtain ⟨a,b,c⟩:=t;simp
theorem cvX_tr {xs:List AV} (h:∀ H,cvL H xs=some (xs,[],True)) (H:List (Nat × Blk)):cvX H (.agg xs)=some (.agg xs,[],True):=by
  simp only [cvX,h]
@[go_sem] theorem take_len_map {α β:Type} (f:α→β) (l:List α):List.take l.length (l.map f)=l.map f:=List.take_of_length_le (by simp)
def byt (x:Int):UInt8:=UInt8.ofNat (IntKind.u8.wrap x).toNat
def byD (L:AV):Nat→Int→List UInt8
  | 0,_=>[]
  | n+1,z=>byt (nxI L z 256)::byD L n (nxZ L z)
def byZ (L:AV):Nat→Int→Int
  | 0,z=>z
  | n+1,z=>byZ L n (nxZ L z)
def dyB (L:AV) (z most:Int):List UInt8:=byD L (nxI L z (most+1)).toNat (nxZ L z)
def dyZ (L:AV) (z most:Int):Int:=byZ L (nxI L z (most+1)).toNat (nxZ L z)
theorem byD_len (L:AV):∀ (n:Nat) (z:Int),(byD L n z).length=n
  | 0,_=>rfl
  | n+1,z=>by rw [byD,List.length_cons,byD_len L n]
theorem dc_by {L:AV}:∀ (n:Nat) {z:Int},DcOK L z→DcOK L (byZ L n z)
  | 0,_,h=>h
  | n+1,_,h=>dc_by n (dc_nx h)
theorem dc_dy {L:AV} {z most:Int} (h:DcOK L z):DcOK L (dyZ L z most):=dc_by _ (dc_nx h)
theorem dyB_len (L:AV) (z most:Int) (h:0≤most):((dyB L z most).length:Int)≤most:=by
  have:=nx_rng L z (most+1) (by omega);rw [dyB,byD_len];omega
theorem bytes_s (L:AV) (z most:Int) (hd:DcOK L z) (h1:0≤most) (h2:most≤1000000):FnS Tryz.prog 18 [.ptr 0 0 0,.lit (.int .i64 most)] [.li 2 [.agg [L,.lit (.int .i64 z)]]] (.fr (.by_ (dyB L z most))) [.li 2 [.agg [L,.lit (.int .i64 (dyZ L z most))]]]:=by
  have hs:=sgD_ok;have hT:=hd.tr;have hr:=nx_rng L z (most+1) (by omega);obtain ⟨a,ha⟩:=Int.eq_ofNat_of_zero_le hr.1;rw [ha] at hr;have hd0:=dc_nx hd;have eB:dyB L z most=byD L a (nxZ L z):=by rw [dyB,ha];rfl
  have eZ:dyZ L z most=byZ L a (nxZ L z):=by rw [dyZ,ha];rfl
  rw [eB,eZ];obtain ⟨b,hb⟩:∃ b,nxZ L z=b:=⟨_,rfl⟩;rw [hb] at hd0 ⊢;refine fo Tryz.func18 22 fun X hX=>?_;refine up 2 ?_;refine WA.own0 5 (.by_ []) rfl rfl ?_;refine up 1 ?_;refine rK hs fun K hK=>?_;simp only [go_sem,sgD,hd,hT,ha,hb]
  refine eK ?_;refine up 1 ?_;refine WA.loopW hX (fun k=>if k=3000 then 2016 else k) ((fun (i:List UInt8 × Nat × Int)=>⟨[(0,.ptr 0 0 0),(5,.sl 3000 1 0 i.1.length),(6,.lit (.int .i64 (i.2.1:Nat)))],[(3000,⟨.by_ i.1,0,false⟩),(0,⟨.li 2 [.agg [L,.lit (.int .i64 i.2.2)]],0,true⟩)],4000,22⟩:_→St)) (fun i=>i.2.1) (fun i=>(i.1++byD L i.2.1 i.2.2=byD L a b∧byZ L i.2.1 i.2.2=byZ L a b)∧i.1.length+i.2.1=a∧DcOK L i.2.2) (i0:=([],a,b)) (⟨⟨rfl,rfl⟩,by simp,hd0⟩) (by simp only [go_sem,Int.natCast_add,hT] <;> (try and_intros) <;> (try omega)) fun ⟨bs,n,z⟩ hi=>?_
  simp only at hi
  obtain ⟨⟨hi1,hi2⟩,hi,hd2⟩:=hi;refine up 2 ?_;refine WA.cond rfl (fun h=>?_) (fun h=>?_)
  ·
    refine up 1 ?_
    have h6:0<n:=by have:=of_decide_eq_true h;omega
    clear h;have hd3:=dc_nx hd2;have u1:byD L n z=byt (nxI L z 256)::byD L (n-1) (nxZ L z):=by
      obtain ⟨m,rfl⟩:∃ m,n=m+1:=⟨n-1,by omega⟩;rfl
    have u2:byZ L n z=byZ L (n-1) (nxZ L z):=by
      obtain ⟨m,rfl⟩:∃ m,n=m+1:=⟨n-1,by omega⟩;rfl
    refine up 2 ?_;refine WA.regionE ty_ok hs fun K hK=>?_;simp only [go_sem,sgD,hd2,hT]
    refine eN ?_
    refine WA.regionE ty_ok hs fun K hK=>?_;simp only [go_sem,true_and]
    (repeat refine sdA ?_);refine hK _ (roundE hX (fun k=>if k=3000 then 4056 else k) (j:=(bs++[byt (nxI L z 256)],n-1,nxZ L z)) (⟨⟨by rw [← hi1,u1];simp,by rw [← hi2,u2]⟩,by simp;omega,hd3⟩) (by first | omega | (dsimp only;omega) | (simp;omega)) (by simp only [go_sem,Int.natCast_add,hT,byt] <;> (try and_intros) <;> (try omega)))
  ·
    refine up 1 ?_
    have h6:n=0:=by have:=of_decide_eq_false h;omega
    subst h6;simp only [byD,byZ,List.append_nil] at hi1 hi2;rw [← hi1,← hi2];refine up 1 ?_;refine rE [.fr (.by_ bs)] [.li 2 [.agg [L,.lit (.int .i64 z)]]] [.tmp 4] ?_;simp only [go_sem,hT]
end Go.Proofs.YtjjkfpbkmhfckaaGreatDoor
