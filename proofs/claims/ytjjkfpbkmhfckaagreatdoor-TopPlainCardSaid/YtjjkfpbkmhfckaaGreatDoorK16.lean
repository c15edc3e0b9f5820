import Derived.Test.YtjjkfpbkmhfckaaGreatDoorDiceB
import Derived.Test.YtjjkfpbkmhfckaaGreatDoorK06
set_option linter.unusedVariables false
set_option linter.unusedSimpArgs false
set_option maxHeartbeats 1000000
set_option maxRecDepth 10000
namespace Go.Proofs.YtjjkfpbkmhfckaaGreatDoor
open Go.RowKit Go.TravelBase Go.TravelAbs
@[go_sem] theorem take_app2 {α:Type} (a b:List α):List.take (a.length+b.length) (a++b)=a++b:=List.take_of_length_le (by simp)
@[go_sem] theorem take_app_1 {α:Type} (a:List α) (x:α):List.take (a.length+1) (a++[x])=a++[x]:=List.take_of_length_le (by simp)
@[go_sem] theorem take_app_2 {α:Type} (a:List α) (x y:α):List.take (a.length+2) (a++[x,y])=a++[x,y]:=List.take_of_length_le (by simp)
@[go_sem] theorem fdiv8 (x:Int):x.fdiv (2 ^ 8)=x / 256:=Int.fdiv_eq_ediv_of_nonneg _ (by decide)
@[go_sem] theorem take_take_ {α:Type} (m:Nat) (l:List α):(l.take m).take m=l.take m:=by rw [List.take_take,Nat.min_self]
@[go_sem] theorem take_rep_ {α:Type} (n:Nat) (x:α):List.take n (List.replicate n x)=List.replicate n x:=List.take_of_length_le (by simp)
attribute [go_sem] Nat.le_refl
structure Cm where
  cls:Int
  ins:Int
  p1:Int
  p2:Int
  data:List UInt8
  exp:Int
def C0:Cm:=⟨0,0,0,0,[],0⟩
def ValC (c:Cm):Prop:=((0≤c.ins∧c.ins≤255)∧(0≤c.p1∧c.p1≤255)∧(0≤c.p2∧c.p2≤255))∧(0≤c.cls∧c.cls≤254)∧(c.data.length:Int)≤4096∧(c.exp = -1∨1≤c.exp∧c.exp≤65536)
instance (c:Cm):Decidable (ValC c):=by unfold ValC;infer_instance
def valC (c:Cm):Bool:=decide (ValC c)
def b1 (n:Int):List UInt8:=[byt n]
def b2 (n:Int):List UInt8:=[byt (n / 256),byt n]
def bn (two:Bool) (n:Int):List UInt8:=if two then b2 n else b1 n
def encE (c:Cm):Int:=if ValC c then 0 else 14
theorem byt_pos {x:Int} (h:0≤x):byt x=UInt8.ofNat x.toNat:=by
  unfold byt;apply UInt8.toNat_inj.1
  simp only [UInt8.toNat_ofNat'];rw [IntKind.wrap_u8];omega
theorem byt_to {x:Int} (h:0≤x):(byt x).toNat=x.toNat % 256:=by
  rw [byt_pos h];simp
theorem byt_mod {x y:Int} (hx:0≤x) (hy:0≤y) (h:x % 256=y % 256):byt x=byt y:=by
  apply UInt8.toNat_inj.1
  rw [byt_to hx,byt_to hy];omega
theorem beS_1 (n:Nat):beS n 1=[byt n]:=by
  simp only [beS,p256,Nat.pow_zero,Nat.div_one];rw [byt_pos (by omega)];rfl
theorem beS_2 (n:Nat):beS n 2=[byt (n / 256:Nat),byt n]:=by
  simp only [beS,p256,Nat.pow_zero,Nat.div_one,Nat.pow_one];rw [byt_pos (by omega),byt_pos (by omega)];rfl
theorem number1 {n:Int} (h:0≤n):octL (n.tmod 256) 1=b1 n:=by
  have h1:=Int.tmod_eq_emod_of_nonneg (b:=256) h;have e:octE (n.tmod 256) 1=0:=by
    unfold octE p256;rw [if_neg (by omega),if_neg (by simp;omega)]
  unfold octL;rw [if_pos e];show beS _ 1=_;rw [beS_1,b1];congr 1
  exact byt_mod (by omega) h (by omega)
theorem number2 {n:Int} (h:0≤n):octL (n.tmod 65536) 2=b2 n:=by
  have h1:=Int.tmod_eq_emod_of_nonneg (b:=65536) h;have e:octE (n.tmod 65536) 2=0:=by
    unfold octE p256;rw [if_neg (by omega),if_neg (by simp;omega)]
  unfold octL;rw [if_pos e];show beS _ 2=_;rw [beS_2,b2];congr 1
  · exact byt_mod (by omega) (by omega) (by omega)
  · congr 1
    exact byt_mod (by omega) h (by omega)
def pw8 (k:Nat):Int:=if k=1 then 256 else 65536
def expd (b:List UInt8):Int:=if (numS b:Int)=0 then pw8 b.length else numS b
def bodyOK (r:List UInt8) (s:Nat):Prop:=r.length=s∨s<r.length∧numS (r.take s) ≠ 0∧numS (r.take s)≤4096∧(r.length=s+numS (r.take s)∨r.length=s+numS (r.take s)+s)
instance (r:List UInt8) (s:Nat):Decidable (bodyOK r s):=by unfold bodyOK;infer_instance
def bodyD (r:List UInt8) (s:Nat):List UInt8:=if r.length=s then [] else (r.drop s).take (numS (r.take s))
def bodyE (r:List UInt8) (s:Nat):Int:=if r.length=s then expd r else if r.length=s+numS (r.take s) then -1 else expd ((r.drop s).drop (numS (r.take s)))
def form (r:List UInt8):Nat:=if r.length=0 then 0 else if r.length=1∨r.getD 0 0 ≠ 0 then 1 else 2
def rest2 (r:List UInt8):List UInt8:=if form r=2 then r.drop 1 else r
def decOK (r:List UInt8):Prop:=form r=0∨bodyOK (rest2 r) (form r)
instance (r:List UInt8):Decidable (decOK r):=by unfold decOK;infer_instance
def decD (r:List UInt8):List UInt8:=if form r=0 then [] else bodyD (rest2 r) (form r)
def decX (r:List UInt8):Int:=if form r=0 then -1 else bodyE (rest2 r) (form r)
def decE (b:List UInt8):Int:=if b.length<4 then 6 else if ¬ decOK (b.drop 4) then 2 else if (b.getD 0 0).toNat=255 then 14 else 0
def decV (b:List UInt8):Cm:=if decE b=0 then ⟨(b.getD 0 0).toNat,(b.getD 1 0).toNat,(b.getD 2 0).toNat,(b.getD 3 0).toNat,decD (b.drop 4),decX (b.drop 4)⟩ else C0
def okB (x:Int):Bool:=decide (0≤x∧x≤255)
theorem beqi (a b:Int):(a == b)=decide (a=b):=rfl
theorem valid_s (c:Cm):FnS Tryz.prog 12 [.agg [.lit (.int .i64 c.cls),.lit (.int .i64 c.ins),.lit (.int .i64 c.p1),.lit (.int .i64 c.p2),.by_ c.data,.lit (.int .i64 c.exp)]] [] (.lit (.bool (valC c))) []:=by
  have hs:=sg0_ok;refine fo Tryz.func12 55 fun X hX=>?_;refine up 4 ?_;refine WA.loopW hX (fun k=>k) ((fun (i:Nat)=>⟨[(1,.ptr 2000 0 0),(12,.sl 2064 1 0 3),(13,.lit (.int .i64 3)),(14,.lit (.int .i64 (i:Nat)))],[(2064,⟨.li 1 [.lit (.int .i64 c.ins),.lit (.int .i64 c.p1),.lit (.int .i64 c.p2)],0,false⟩),(2000,⟨.li 6 [.agg [.lit (.int .i64 c.cls),.lit (.int .i64 c.ins),.lit (.int .i64 c.p1),.lit (.int .i64 c.p2),.by_ c.data,.lit (.int .i64 c.exp)]],0,false⟩)],3000,55⟩:_→St)) (fun i=>3-i) (fun i=>i≤3 ∧ ∀ j,j<i→okB ([c.ins,c.p1,c.p2].getD j 0)=true) (i0:=0) (⟨by omega,fun j hj=>by omega⟩) (by simp only [go_sem,Int.natCast_add,true_and] <;> (try and_intros) <;> (try omega)) fun i hi=>?_
  obtain ⟨hi,hok⟩:=hi;refine up 2 ?_;refine WA.cond rfl (fun h=>?_) (fun h=>?_)
  ·
    refine up 1 ?_
    have h6:i<3:=by have:=of_decide_eq_true h;omega
    clear h;obtain ⟨v,hv,g⟩:∃ v,[c.ins,c.p1,c.p2].getD i 0=v∧[AV.lit (.int .i64 c.ins),.lit (.int .i64 c.p1),.lit (.int .i64 c.p2)].getD i .any = .lit (.int .i64 v):=by
      rcases (show i=0∨i=1∨i=2 by omega) with rfl | rfl | rfl <;> exact ⟨_,rfl,rfl⟩
    refine up 2 ?_;refine rK hs fun K hK=>?_;simp only [go_sem,g]
    refine eK ?_;refine up 1 ?_;refine WA.cond rfl (fun h=>?_) (fun h=>?_)
    ·
      have h:v<0∨255<v:=by simpa using h
      have e:valC c=false:=decide_eq_false fun q=>by
        obtain ⟨⟨q1,q2,q3⟩,-⟩:=q;rcases (show i=0∨i=1∨i=2 by omega) with rfl | rfl | rfl <;> (simp at hv;omega)
      refine up 1 ?_;refine rE [.lit (.bool (valC c))] [] [.tmp 2] ?_;simp only [go_sem,sbT,e]
    ·
      have h:0≤v∧v≤255:=by simpa using h
      refine up 1 ?_
      refine WA.regionE ty_ok hs fun K hK=>?_;simp only [go_sem,true_and]
      (repeat refine sdA ?_);refine hK _ (roundE hX (fun k=>k) (j:=i+1) (⟨by omega,fun j hj=>by rcases Nat.lt_succ_iff_lt_or_eq.1 hj with q | rfl;exact hok j q;rw [hv];exact decide_eq_true h⟩) (by first | omega | (dsimp only;omega) | (simp;omega)) (by simp only [go_sem,Int.natCast_add,true_and] <;> (try and_intros) <;> (try omega)))
  ·
    have h6:i=3:=by have:=of_decide_eq_false h;omega
    subst h6;have o1:0≤c.ins∧c.ins≤255:=of_decide_eq_true (hok 0 (by omega));have o2:0≤c.p1∧c.p1≤255:=of_decide_eq_true (hok 1 (by omega));have o3:0≤c.p2∧c.p2≤255:=of_decide_eq_true (hok 2 (by omega));refine up 3 ?_;refine rE [.lit (.bool (valC c))] [] [.tmp 2] ?_;simp only [go_sem,sbT];all_goals (unfold valC ValC;simp [o1,o2,o3,beqi,Bool.decide_and,Bool.decide_or,Bool.and_assoc])
def sgOc:Sg:=fun f args ls =>
  match f,args,ls with
  | 36,[.lit (.int .i64 n),.lit (.int .i64 k)],[]=>some (.tup [.fr (.by_ (octL n k)),.lit (.int .i64 (octE n k))],[],(-9223372036854775808≤n∧n≤9223372036854775807) ∧ -9223372036854775808≤k∧k≤9223372036854775807)
  | 101,[.by_ bs],[]=>some (.tup [.lit (.int .i64 (numV bs)),.lit (.int .i64 (numE bs))],[],True)
  | _,_,_=>none
theorem sgOc_ok:SgOK Tryz.prog sgOc:=by
  intro f args ls r ls' vc h hvc;unfold sgOc at h;split at h <;> cases h
  · exact ⟨(fnOK Tryz.func36 (by decide) rfl),octets_s _ _ hvc.1 hvc.2⟩
  · exact ⟨(fnOK Tryz.func101 (by decide) rfl),number_s _⟩
def bnI (k n:Int):List UInt8:=if k=1 then b1 n else b2 n
theorem num_s (n k:Int) (h:0≤n) (h2:n≤9223372036854775807) (hk:k=1∨k=2):FnS Tryz.prog 176 [.lit (.int .i64 n),.lit (.int .i64 k)] [] (.fr (.by_ (bnI k n))) []:=by
  have hs:=sgOc_ok;have t1:=Int.tmod_lt_of_pos n (show (0:Int)<256 by omega);have t2:=Int.tmod_nonneg 256 h;have t3:=Int.tmod_lt_of_pos n (show (0:Int)<65536 by omega);have t4:=Int.tmod_nonneg 65536 h;have e1:=number1 h;have e2:=number2 h;have w1:IntKind.i64.wrap 256=256:=by decide
  have w2:IntKind.i64.wrap 65536=65536:=by decide
  rcases hk with rfl | rfl
  · refine fo Tryz.func176 18 fun X hX=>?_;refine up 1 ?_;refine rK hs fun K hK=>?_;simp only [go_sem,sgOc,Int.reduceMul,Int.reducePow,w1,e1]
    refine eK ?_;refine up 1 ?_;refine rE [.fr (.by_ (bnI 1 n))] [] [.tmp 4] ?_;simp only [go_sem,bnI]
  · refine fo Tryz.func176 18 fun X hX=>?_;refine up 1 ?_;refine rK hs fun K hK=>?_;simp only [go_sem,sgOc,Int.reduceMul,Int.reducePow,w2,e2]
    refine eK ?_;refine up 1 ?_;refine rE [.fr (.by_ (bnI 2 n))] [] [.tmp 4] ?_;simp only [go_sem,bnI]
end Go.Proofs.YtjjkfpbkmhfckaaGreatDoor
