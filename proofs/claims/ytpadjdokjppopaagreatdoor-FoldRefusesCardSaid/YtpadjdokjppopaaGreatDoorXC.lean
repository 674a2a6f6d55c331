/- Joined texts: XC. -/
import Derived.ChangeArms
import Derived.OpenShut
import Derived.ChangeOld
import Derived.Carry
import Derived.LaidLaws
import Derived.SizedLaws
import Derived.Test.YtpadjdokjppopaaGreatDoorXD
namespace Go.Proofs.YtpadjdokjppopaaGreatDoor.X
open Go
variable {H : Type}
def AH.newRo (h : AH) (cells : List Value) (esz : Nat) : AH:={ blks:=h.blks.set h.next ⟨cells,esz,h.next,true⟩,grps:=h.grps,next:=h.next + 1,low:=h.low }
def layAll (f : TypeId → DataW H → AH → Option (List Value × AH)) : List (TypeId × DataW H) → AH → Option (List Value × AH)
 | [],h => some ([],h)
 | d :: l,h => (f d.1 d.2 h).bind fun p => (layAll f l p.2).bind fun q => some (p.1 ++ q.1,q.2)
def contig (P : Program) : Nat → List Field → Nat → Bool
 | o,[],e => Nat.beq o e
 | o,f :: r,e => Nat.beq f.offset o && contig P (o + P.cellsOf f.type) r e
def layD (P : Program) : Nat → TypeId → DataW H → AH → Option (List Value × AH)
 | 0,_,_,_ => none
 | N + 1,t,d,h => match P.underlying t,d with
  | some .bool,.lit (.bool b) => some ([.bool b],h)
  | some (.int _),.lit (.int k n) => some ([.int k n],h)
  | some .string,.lit (.string s) => some ([.string ⟨s.toArray⟩],h)
  | some (.slice _),.nil => some ([.slice none 0 0],h)
  | some (.slice e),.slice xs ys => cond (Nat.beq (xs.length + ys.length) 0) (some ([.slice (some ⟨0,0,none⟩) 0 0],h)) (cond (Nat.beq (P.cellsOf e) 0 || Nat.ble OPEN (xs.length + ys.length)) none
    ((layAll (layD P N) ((xs ++ ys).map fun d => (e,d)) h).bind fun p => some ([.slice (some ⟨p.2.next,0,none⟩) xs.length (xs.length + ys.length)],p.2.newRo p.1 (P.cellsOf e))))
  | some (.pointer _),.nil => some ([.pointer none],h)
  | some (.pointer e),.ptr d => cond (Nat.beq (P.cellsOf e) 0) none ((layD P N e d h).bind fun p => some ([.pointer (some ⟨p.2.next,0,none⟩)],p.2.newRo p.1 0))
  | some (.struct fs),.agg xs => cond (contig P 0 fs.toList (P.cellsOf t)) (layAll (layD P N) ((fs.toList.map fun f => f.type).zip xs) h) none
  | some (.array n e),.agg xs => cond (Nat.beq (n * P.cellsOf e) (P.cellsOf t)) (layAll (layD P N) (xs.map fun d => (e,d)) h) none
  | _,_ => none
def RoAll (h : AH) : Prop:=∀ β b,h.blks.get β = some b → b.ro = true
variable {enc : TypeId × Value → H} {P : Program} {w : World} {base : Nat} {spare : Nat → Bool} {held : Bool} {ι : Inj} {h : AH}
theorem Rel.newRo (R : Rel ι base h w) (hro : RoAll h) {cells : List Value} {z : Nat} {k : Img} {cs : Array Value} {el : TypeId} {fz : Nat × Nat} (h1 : w.heap[k.b]? = some (.cells cs el fz)) (h2 : cs.size = k.bsz) (hz : k.esz = z)
  (h3 : AllR (cRel ι) cells ((cs.toList.drop k.sh).take cells.length)) : ∃ ι' : Inj,ι' h.next = some k ∧ Rel ι' base (h.newRo cells z) w ∧ RoAll (h.newRo cells z) ∧ (∀ β,β < h.next → ι' β = ι β):=by
 obtain ⟨_,hn2⟩:=R.new h.next (Nat.le_refl _)
 let ι' : Inj:=fun γ => if γ = h.next then some k else ι γ
 have hι1 : ι' h.next = some k:=if_pos rfl
 have hι2 : ∀ γ,γ ≠ h.next → ι' γ = ι γ:=fun γ e => if_neg e
 have hsub : Sub ι ι':=fun β k e => (hι2 β (Nat.ne_of_lt (R.dom β k e).1)).trans e
 have hblk : ∀ γ,(h.newRo cells z).blks.get γ = if γ = h.next then some ⟨cells,z,h.next,true⟩ else h.blks.get γ:=fun γ => Tr.get_set _ _ _ _
 have hra : RoAll (h.newRo cells z):=fun β b hb => by
  rw [hblk] at hb
  split at hb
  ·injection hb with hb
   subst hb
   rfl
  ·exact hro β b hb
 have hrd : ∀ γ c,(h.newRo cells z).rd γ = some c → (γ = h.next ∧ c = ⟨cells,z,h.next,true⟩) ∨ (γ ≠ h.next ∧ h.rd γ = some c):=fun γ c hc => by
  obtain ⟨q1,q2⟩:=rd_get hc
  rw [hblk] at q1
  split at q1
  ·rename_i e
   injection q1 with q1
   exact .inl ⟨e,q1.symm⟩
  ·rename_i e
   exact .inr ⟨e,rd_of q1 q2⟩
 have hkb : k.b < w.heap.size:=by
  rcases Nat.lt_or_ge k.b w.heap.size with g | g
  ·exact g
  ·rw [Array.getElem?_eq_none g] at h1
   cases h1
 refine ⟨ι',hι1,⟨?_,?_,?_,?_,?_,?_,?_,?_,R.bas,?_,fun β b q hb hk hm => ?_⟩,hra,fun β hb => hι2 β (Nat.ne_of_lt hb)⟩
 ·intro β b q hr hk
  rcases hrd β b hr with ⟨rfl,rfl⟩ | ⟨e,hr⟩
  ·rw [hι1] at hk
   injection hk with hk
   subst hk
   exact ⟨cs,el,fz,h1,h2,fun e => (by cases e),_,rfl,h3.mono fun _ _ => cRel.mono hsub⟩
  ·rw [hι2 β e] at hk
   obtain ⟨cs',el',fz',g1,g2,g3,l,g4,g5⟩:=R.blk β b q hr hk
   exact ⟨cs',el',fz',g1,g2,g3,l,g4,g5.mono fun _ _ => cRel.mono hsub⟩
 ·intro β b q hb hk
  rw [hblk] at hb
  split at hb
  ·rename_i e
   subst e
   injection hb with hb
   subst hb
   rw [hι1] at hk
   injection hk with hk
   subst hk
   exact hz
  ·rename_i e
   rw [hι2 β e] at hk
   exact R.esz β b q hb hk
 ·intro β b q hb _ hr
  rw [hra β b hb] at hr
  cases hr
 ·intro β b hb
  rw [hblk] at hb
  split at hb
  ·rename_i e
   injection hb with hb
   subst hb
   exact Nat.le_of_eq e.symm
  ·exact R.gle β b hb
 ·intro β β' b b' q q' hb hb' _ _ _ hr
  rw [hra β b hb,hra β' b' hb'] at hr
  rcases hr with hr | hr <;> cases hr
 ·intro β q hk
  by_cases e : β = h.next
  ·subst e
   rw [hι1] at hk
   injection hk with hk
   subst hk
   exact ⟨Nat.lt_succ_self _,hkb⟩
  ·rw [hι2 β e] at hk
   exact ⟨Nat.lt_succ_of_lt (R.dom β q hk).1,(R.dom β q hk).2⟩
 ·intro β hβ
  have hβ' : h.next + 1 ≤ β:=hβ
  rw [hblk,if_neg (by omega)]
  exact R.new β (by omega)
 ·intro β b hb
  rw [hblk] at hb
  split at hb
  ·injection hb with hb
   subst hb
   exact Nat.lt_succ_self _
  ·exact Nat.lt_succ_of_lt (R.grp β b hb)
 ·intro β q hk
  rw [hblk]
  by_cases e : β = h.next
  ·exact ⟨_,if_pos e⟩
  ·rw [hι2 β e] at hk
   obtain ⟨b,hb⟩:=R.has β q hk
   exact ⟨b,by rw [if_neg e]; exact hb⟩
 ·have hm : h.grps.get b.grp = some []:=hm
  rw [hblk] at hb
  split at hb
  ·injection hb with hb
   subst hb
   have hm : h.grps.get h.next = some []:=hm
   rw [hn2] at hm
   cases hm
  ·rename_i e
   rw [hι2 β e] at hk
   have:=(R.map β b q hb hk hm).1.2
   rw [hro β b hb] at this
   cases this
def ReadsL (enc : TypeId × Value → H) (P : Program) (w : World) (base : Nat) (spare : Nat → Bool) (held : Bool) (m : Nat) : List (TypeId × DataW H) → List Value → Prop
 | [],l => l = []
 | td :: r,l => (∃ ps,DataW.trod enc P w base spare held m td.1 (l.take (P.cellsOf td.1)) = some (td.2,ps)) ∧ ReadsL enc P w base spare held m r (l.drop (P.cellsOf td.1))
def Laid (ι : Inj) (base : Nat) (w : World) (h : AH) (xs cs : List Value) (h' : AH) : Prop :=
 ∃ ι' : Inj,Rel ι' base h' w ∧ RoAll h' ∧ (∀ β,β < h.next → ι' β = ι β) ∧ h.next ≤ h'.next ∧ AllR (cRel ι') xs cs
theorem layAll_sound {f : TypeId → DataW H → AH → Option (List Value × AH)} {m tb : Nat}
  (hf : ∀ t cs d ps ι h xs h',DataW.trod enc P w tb spare held m t cs = some (d,ps) → f t d h = some (xs,h') → Rel ι base h w → RoAll h → Laid ι base w h xs cs h') :
  ∀ (l : List (TypeId × DataW H)) {cs : List Value} {ι : Inj} {h h' : AH} {xs : List Value},ReadsL enc P w tb spare held m l cs → layAll f l h = some (xs,h') → Rel ι base h w → RoAll h → Laid ι base w h xs cs h'
 | [],cs,ι,h,h',xs,hr,hl,R,hro => by
  obtain rfl : cs = []:=hr
  obtain ⟨rfl,rfl⟩:=Prod.mk.inj (Option.some.inj hl)
  exact ⟨ι,R,hro,fun _ _ => rfl,Nat.le_refl _,trivial⟩
 | td :: l,cs,ι,h,h',xs,hr,hl,R,hro => by
  obtain ⟨⟨ps,hp⟩,hr⟩:=hr
  obtain ⟨⟨x1,h1⟩,hx1,hl⟩:=Option.bind_eq_some_iff.1 hl
  obtain ⟨⟨x2,h2⟩,hx2,hl⟩:=Option.bind_eq_some_iff.1 hl
  obtain ⟨rfl,rfl⟩:=Prod.mk.inj (Option.some.inj hl)
  obtain ⟨ι1,R1,ro1,a1,n1,c1⟩:=hf _ _ _ _ _ _ _ _ hp hx1 R hro
  obtain ⟨ι2,R2,ro2,a2,n2,c2⟩:=layAll_sound hf l hr hx2 R1 ro1
  have hs : Sub ι1 ι2:=fun β k e => (a2 β (R1.dom β k e).1).trans e
  refine ⟨ι2,R2,ro2,fun β hb => (a2 β (Nat.lt_of_lt_of_le hb n1)).trans (a1 β hb),Nat.le_trans n1 n2,?_⟩
  have:=(c1.mono fun _ _ => cRel.mono hs).append c2
  rwa [List.take_append_drop] at this
theorem readsL_rep {m : Nat} {e : TypeId} : ∀ (ds : List (DataW H)) (cs : List Value),cs.length = ds.length * P.cellsOf e →
  (∀ i d,ds[i]? = some d → ∃ ps,DataW.trod enc P w base spare held m e ((cs.drop (i * P.cellsOf e)).take (P.cellsOf e)) = some (d,ps)) → ReadsL enc P w base spare held m (ds.map fun d => (e,d)) cs
 | [],cs,hl,_ => List.eq_nil_of_length_eq_zero (by rw [hl,List.length_nil,Nat.zero_mul])
 | d :: ds,cs,hl,hr => by
  refine ⟨?_,readsL_rep ds _ (by rw [List.length_drop,hl,List.length_cons,Nat.add_mul,Nat.one_mul,Nat.add_sub_cancel]) fun i d' hd => ?_⟩
  ·have:=hr 0 d rfl
   rwa [Nat.zero_mul,List.drop_zero] at this
  ·have:=hr (i + 1) d' hd
   rwa [List.drop_drop,Nat.add_comm (P.cellsOf e),← Nat.succ_mul]
theorem readsL_fields {m : Nat} : ∀ (fs : List Field) (ds : List (DataW H)) (o e : Nat) (cs : List Value),contig P o fs e = true → ds.length = fs.length → cs.length = e - o → o ≤ e →
  (∀ (i : Nat) (f : Field) (d : DataW H),fs[i]? = some f → ds[i]? = some d → ∃ ps,DataW.trod enc P w base spare held m f.type ((cs.drop (f.offset - o)).take (P.cellsOf f.type)) = some (d,ps)) → ReadsL enc P w base spare held m ((fs.map fun f => f.type).zip ds) cs:=by
 intro fs
 induction fs with
 | nil =>
  intro ds o e cs hc hd hl _ _
  cases ds with
  | nil =>
   have:=Nat.eq_of_beq_eq_true hc
   exact List.eq_nil_of_length_eq_zero (by omega)
  | cons _ _ => cases hd
 | cons f fs ih =>
  intro ds o e cs hc hd hl hoe hr
  cases ds with
  | nil => cases hd
  | cons d ds =>
   unfold contig at hc
   rw [Bool.and_eq_true] at hc
   have ho:=Nat.eq_of_beq_eq_true hc.1
   have mono : ∀ (fs : List Field) (o e : Nat),contig P o fs e = true → o ≤ e ∧ ∀ f ∈ fs,o ≤ f.offset:=by
    intro fs
    induction fs with
    | nil => exact fun o e h => ⟨Nat.le_of_eq (Nat.eq_of_beq_eq_true h),fun f hf => by cases hf⟩
    | cons g fs ih =>
     intro o e h
     unfold contig at h
     rw [Bool.and_eq_true] at h
     have h1:=ih _ _ h.2
     refine ⟨by omega,fun f hf => ?_⟩
     rcases List.mem_cons.1 hf with rfl | hf
     ·exact Nat.le_of_eq (Nat.eq_of_beq_eq_true h.1).symm
     ·have:=h1.2 f hf
      omega
   have hm:=mono fs _ e hc.2
   refine ⟨?_,ih ds _ e _ hc.2 (Nat.succ.inj hd) (by rw [List.length_drop]; show cs.length - P.cellsOf f.type = _; omega) hm.1 fun i f' d' hf' hd' => ?_⟩
   ·have:=hr 0 f d rfl rfl
    rwa [ho,Nat.sub_self,List.drop_zero] at this
   ·have:=hr (i + 1) f' d' hf' hd'
    rw [List.drop_drop]
    have hle:=hm.2 f' (List.mem_of_getElem? hf')
    rwa [show P.cellsOf f.type + (f'.offset - (o + P.cellsOf f.type)) = f'.offset - o by omega]
theorem cells_of {a : Addr} {n : Nat} {l : List Value} (hc : w.cells? base a n = some l) (hn : n ≠ 0) : a.spot = none ∧ ∃ cs el fz,w.heap[a.block]? = some (.cells cs el fz) ∧ a.off + n ≤ cs.size ∧ l = (cs.toList.drop a.off).take n:=by
 unfold World.cells? at hc
 split at hc
 ·have hlen:=mapM_some_length hc
  rw [List.length_range] at hlen
  have hget:=fun i (hi : i < n) => mapM_some_get hc i i (by simp [hi])
  have hcell : ∀ i (hi : i < n),w.cell? (a.add i) = some (l[i]'(by omega)):=fun i hi => by
   rw [hget i hi]
   exact List.getElem?_eq_getElem (by omega)
  have h0:=hcell 0 (by omega)
  have hsp : a.spot = none:=by
   unfold World.cell? at h0
   split at h0
   ·cases hs : a.spot with
    | none => rfl
    | some s =>
     have : ((a.add 0).spot).isSome = true:=by
      show a.spot.isSome = true
      rw [hs]
      rfl
     rw [if_pos this] at h0
     cases h0
   ·cases h0
  obtain ⟨ab,ao,as⟩:=a
  obtain rfl : as = none:=hsp
  have hadd : ∀ i,(⟨ab,ao,none⟩ : Addr).add i = ⟨ab,ao + i,none⟩:=fun i => add_none rfl i
  have h0':=h0
  rw [hadd] at h0'
  unfold World.cell? at h0'
  split at h0'
  ·rename_i cs el fz hh
   have hc' : ∀ i (hi : i < n),cs[ao + i]? = some (l[i]'(by omega)):=fun i hi => by
    have:=hcell i hi
    rw [hadd] at this
    unfold World.cell? at this
    rw [hh] at this
    exact this
   have hsz : ao + n ≤ cs.size:=by
    have:=hc' (n - 1) (by omega)
    have:=(Array.getElem?_eq_some_iff.1 this).1
    omega
   refine ⟨rfl,cs,el,fz,hh,hsz,?_⟩
   apply List.ext_getElem?
   intro i
   rw [List.getElem?_take]
   split
   ·rename_i hi
    rw [List.getElem?_drop]
    exact (List.getElem?_eq_getElem (by omega)).trans ((hc' i hi).symm.trans Array.getElem?_toList.symm)
   ·exact List.getElem?_eq_none (by omega)
  ·cases h0'
 ·cases hc
variable {H : Type} {enc : TypeId × Value → H} {P : Program} {w : World} {base : Nat} {held : Bool}
theorem readsL_row {m : Nat} {e : TypeId} {a : Addr} (hz : P.cellsOf e ≠ 0) : ∀ (ds : List (DataW H)),ds ≠ [] →
  (∀ i d,ds[i]? = some d → ∃ l ps,w.cells? 0 (a.add (i * P.cellsOf e)) (P.cellsOf e) = some l ∧ DataW.trod enc P w 0 (fun _ => true) held m e l = some (d,ps)) →
  a.spot = none ∧ ∃ cs el fz,w.heap[a.block]? = some (.cells cs el fz) ∧ a.off + ds.length * P.cellsOf e ≤ cs.size ∧
   ReadsL enc P w 0 (fun _ => true) held m (ds.map fun d => (e,d)) ((cs.toList.drop a.off).take (ds.length * P.cellsOf e)):=by
 intro ds hne hr
 have hpos : 0 < ds.length:=List.length_pos_iff.2 hne
 obtain ⟨l0,ps0,h0,_⟩:=hr 0 _ (List.getElem?_eq_getElem hpos)
 rw [Nat.zero_mul] at h0
 obtain ⟨hsp,cs,el,fz,hh,_,_⟩:=cells_of h0 hz
 have hsp : a.spot = none:=hsp
 obtain ⟨ab,ao,as⟩:=a
 obtain rfl : as = none:=hsp
 have hb : (⟨ab,ao,none⟩ : Addr).add 0 = ⟨ab,ao + 0,none⟩:=add_none rfl 0
 rw [hb] at hh
 have hall : ∀ i d,ds[i]? = some d → ao + i * P.cellsOf e + P.cellsOf e ≤ cs.size ∧ ∃ ps,DataW.trod enc P w 0 (fun _ => true) held m e ((cs.toList.drop (ao + i * P.cellsOf e)).take (P.cellsOf e)) = some (d,ps):=by
  intro i d hd
  obtain ⟨l,ps,h1,h2⟩:=hr i d hd
  obtain ⟨_,cs',el',fz',hh',hsz,rfl⟩:=cells_of h1 hz
  have hb : (⟨ab,ao,none⟩ : Addr).add (i * P.cellsOf e) = ⟨ab,ao + i * P.cellsOf e,none⟩:=add_none rfl _
  rw [hb] at hh' hsz h2
  have hh' : w.heap[ab]? = some (.cells cs' el' fz'):=hh'
  have hh : w.heap[ab]? = some (.cells cs el fz):=hh
  rw [hh] at hh'
  injection hh' with hh'
  injection hh' with h5 _ _
  subst h5
  exact ⟨hsz,ps,h2⟩
 have hfit : ao + ds.length * P.cellsOf e ≤ cs.size:=by
  obtain ⟨h1,_⟩:=hall (ds.length - 1) _ (List.getElem?_eq_getElem (by omega))
  have : (ds.length - 1) * P.cellsOf e + P.cellsOf e = ds.length * P.cellsOf e:=by
   rw [← Nat.succ_mul]
   congr 1
   omega
  omega
 refine ⟨rfl,cs,el,fz,hh,hfit,readsL_rep ds _ (by rw [List.length_take,List.length_drop]; have hq : cs.toList.length = cs.size:=Array.length_toList; show min _ (cs.toList.length - ao) = _; omega) fun i d hd => ?_⟩
 obtain ⟨_,ps,h2⟩:=hall i d hd
 refine ⟨ps,?_⟩
 have hi:=(List.getElem?_eq_some_iff.1 hd).1
 have hle : i * P.cellsOf e + P.cellsOf e ≤ ds.length * P.cellsOf e:=by
  rw [← Nat.succ_mul]
  exact Nat.mul_le_mul_right _ hi
 rw [List.drop_take,List.drop_drop,List.take_take,Nat.min_eq_left (by omega)]
 exact h2
theorem Laid.one {ι : Inj} {h : AH} (R : Rel ι base h w) (hro : RoAll h) {x y : Value} (hx : pRel ι x y) : Laid ι base w h [x] [y] h :=
 ⟨ι,R,hro,fun _ _ => rfl,Nat.le_refl _,.atom hx,trivial⟩
theorem layD_sound : ∀ (N : Nat) (m : Nat) (t : TypeId) (cs : List Value) (d : DataW H) (ps : List MemPlace) (ι : Inj) (h : AH) (xs : List Value) (h' : AH),
  DataW.trod enc P w 0 (fun _ => true) held m t cs = some (d,ps) → layD P N t d h = some (xs,h') → Rel ι base h w → RoAll h → Laid ι base w h xs cs h':=by
 intro N
 induction N with
 | zero => exact fun _ _ _ _ _ _ _ _ _ _ hl => by cases hl
 | succ N ih =>
  intro m t cs d ps ι h xs h' hp hl R hro
  unfold layD at hl
  split at hl
  ·rename_i hu
   obtain ⟨b,rfl,e⟩:=DataW.trod_bool hu hp
   injection e with e1 e2
   cases e1
   obtain ⟨rfl,rfl⟩:=Prod.mk.inj (Option.some.inj hl)
   exact .one R hro (.bool _)
  ·rename_i hu
   obtain ⟨n,rfl,e,_⟩:=DataW.trod_int hu hp
   injection e with e1 e2
   cases e1
   obtain ⟨rfl,rfl⟩:=Prod.mk.inj (Option.some.inj hl)
   exact .one R hro (.int _ _)
  ·rename_i hu
   obtain ⟨s,rfl,e,_⟩:=DataW.trod_string hu hp
   injection e with e1 e2
   cases e1
   obtain ⟨rfl,rfl⟩:=Prod.mk.inj (Option.some.inj hl)
   exact .one R hro (.string _)
  ·rename_i hu
   obtain ⟨rfl,rfl⟩:=Prod.mk.inj (Option.some.inj hl)
   rcases DataW.trod_slice hu hp with ⟨rfl,_⟩ | ⟨_,_,_,_,_,_,_,_,e,_⟩
   ·exact .one R hro .snil
   ·injection e with e1 _
    cases e1
  ·rename_i e xs0 ys0 hu
   rcases DataW.trod_slice hu hp with ⟨rfl,e⟩ | ⟨a,len,cap,el,rs,n,rfl,rfl,e,_,hlc,hcm,hel,h1,h2,_⟩
   ·injection e with e1 _
    cases e1
   ·injection e with e1 _
    injection e1 with e1 e2
    subst e1
    subst e2
    obtain ⟨hrl,h2⟩:=h2 rfl
    rw [cond_beq] at hl
    have hlen : (el.map (·.1)).length + (rs.map (·.1)).length = cap:=by
     rw [List.length_map,List.length_map]
     omega
    rw [hlen] at hl
    split at hl
    ·rename_i h0
     obtain ⟨rfl,rfl⟩:=Prod.mk.inj (Option.some.inj hl)
     have : len = 0:=by omega
     subst h0
     subst this
     exact .one R hro (.slice _ _ _ _ _ (.inl ⟨rfl,rfl,rfl⟩))
    ·rename_i h0
     cases hz : (Nat.beq (P.cellsOf e) 0 || Nat.ble OPEN cap) with
     | true =>
      rw [hz] at hl
      cases hl
     | false =>
      rw [hz] at hl
      rw [Bool.or_eq_false_iff] at hz
      have hz0 : P.cellsOf e ≠ 0:=Nat.ne_of_beq_eq_false hz.1
      have hopen : cap < OPEN:=by
       rcases Nat.lt_or_ge cap OPEN with g | g
       ·exact g
       ·rw [Nat.ble_eq_true_of_le g] at hz
        cases hz.2
      obtain ⟨⟨cells,h1'⟩,hl1,hl⟩:=Option.bind_eq_some_iff.1 hl
      obtain ⟨rfl,rfl⟩:=Prod.mk.inj (Option.some.inj hl)
      have hdl : (el.map (·.1) ++ rs.map (·.1)).length = cap:=by
       rw [List.length_append]
       exact hlen
      obtain ⟨hsp,bs,bt,fz,hh,hfit,hrd⟩:=readsL_row (enc:=enc) (P:=P) (w:=w) (held:=held) (m:=n) (a:=a) hz0 (el.map (·.1) ++ rs.map (·.1)) (fun e => by rw [e] at hdl; exact h0 hdl.symm) (fun i d hd => by
       rw [← List.map_append,List.getElem?_map] at hd
       obtain ⟨x,hx,rfl⟩:=Option.map_eq_some_iff.1 hd
       rcases Nat.lt_or_ge i len with hi | hi
       ·rw [List.getElem?_append_left (by omega)] at hx
        obtain ⟨l,g1,g2⟩:=Option.bind_eq_some_iff.1 ((h1 i hi).trans hx)
        exact ⟨l,x.2,g1,g2⟩
       ·rw [List.getElem?_append_right (by omega),hel] at hx
        have hi2 : i - len < cap - len:=by
         have:=(List.getElem?_eq_some_iff.1 hx).1
         omega
        obtain ⟨l,g1,g2⟩:=Option.bind_eq_some_iff.1 ((h2 (i - len) hi2).trans hx)
        rw [show len + (i - len) = i by omega] at g1
        exact ⟨l,x.2,g1,g2⟩)
      rw [hdl] at hfit hrd
      obtain ⟨ι1,R1,ro1,a1,n1,c1⟩:=layAll_sound (ih n) _ hrd hl1 R hro
      have hcl : cells.length = cap * P.cellsOf e:=by
       rw [c1.length_eq,List.length_take,List.length_drop,Array.length_toList]
       omega
      obtain ⟨ι2,k2,R2,ro2,a2⟩:=R1.newRo ro1 (cells:=cells) (z:=P.cellsOf e) (k:=⟨a.block,a.off,P.cellsOf e,bs.size⟩) hh rfl rfl (by rw [hcl]; exact c1)
      refine ⟨ι2,R2,ro2,fun β hb => (a2 β (Nat.lt_of_lt_of_le hb n1)).trans (a1 β hb),Nat.le_succ_of_le n1,(by
       show cRel ι2 (.slice (some ⟨h1'.next,0,none⟩) (el.map (·.1)).length cap) _
       rw [List.length_map,hel]
       exact .atom (.sl _ _ _ _ _ ⟨hlc,rfl,hsp,_,k2,rfl,.inr ⟨rfl,.inl ⟨hopen,rfl⟩⟩⟩)),trivial⟩
  ·rename_i hu
   obtain ⟨rfl,rfl⟩:=Prod.mk.inj (Option.some.inj hl)
   rcases DataW.trod_pointer hu hp with ⟨rfl,_⟩ | ⟨_,_,_,_,_,_,e,_⟩
   ·exact .one R hro .pnil
   ·injection e with e1 _
    cases e1
  ·rename_i e d0 hu
   rcases DataW.trod_pointer hu hp with ⟨_,e1⟩ | ⟨a,cs',y,n,rfl,rfl,e1,hc,hy⟩
   ·injection e1 with e1 _
    cases e1
   ·injection e1 with e1 _
    injection e1 with e1
    subst e1
    cases hz : Nat.beq (P.cellsOf e) 0 with
    | true =>
     rw [hz] at hl
     cases hl
    | false =>
     rw [hz] at hl
     have hz0 : P.cellsOf e ≠ 0:=Nat.ne_of_beq_eq_false hz
     obtain ⟨⟨cells,h1'⟩,hl1,hl⟩:=Option.bind_eq_some_iff.1 hl
     obtain ⟨rfl,rfl⟩:=Prod.mk.inj (Option.some.inj hl)
     obtain ⟨hsp,bs,bt,fz,hh,hfit,rfl⟩:=cells_of hc hz0
     obtain ⟨ι1,R1,ro1,a1,n1,c1⟩:=ih n _ _ _ _ _ _ _ _ hy hl1 R hro
     have hcl : cells.length = P.cellsOf e:=by
      rw [c1.length_eq,List.length_take,List.length_drop,Array.length_toList]
      omega
     obtain ⟨ι2,k2,R2,ro2,a2⟩:=R1.newRo ro1 (cells:=cells) (z:=0) (k:=⟨a.block,a.off,0,bs.size⟩) hh rfl rfl (by rw [hcl]; exact c1)
     exact ⟨ι2,R2,ro2,fun β hb => (a2 β (Nat.lt_of_lt_of_le hb n1)).trans (a1 β hb),Nat.le_succ_of_le n1,.atom (.ptr _ _ ⟨rfl,hsp,_,k2,rfl,rfl⟩),trivial⟩
  ·rename_i fs xs0 hu
   obtain ⟨ys,n,rfl,e,hlen,hys,hget⟩:=DataW.trod_struct hu hp
   injection e with e1 _
   injection e1 with e1
   subst e1
   obtain ⟨hc,hl⟩:=cond_some' hl
   refine layAll_sound (ih n) _ (readsL_fields fs.toList _ 0 _ cs hc (by rw [List.length_map,hys,Array.length_toList]) (by rw [hlen,Nat.sub_zero]) (Nat.zero_le _) fun i f d hf hd => ?_) hl R hro
   rw [Array.getElem?_toList] at hf
   rw [List.getElem?_map] at hd
   obtain ⟨y,hy,rfl⟩:=Option.map_eq_some_iff.1 hd
   refine ⟨y.2,?_⟩
   rw [Nat.sub_zero,hget i f hf,hy]
  ·rename_i k e xs0 hu
   obtain ⟨ys,n,rfl,e1,hlen,hys,hget⟩:=DataW.trod_array hu hp
   injection e1 with e1 _
   injection e1 with e1
   subst e1
   obtain ⟨hc,hl⟩:=cond_some' hl
   have hc:=Nat.eq_of_beq_eq_true hc
   refine layAll_sound (ih n) _ (readsL_rep _ cs (by rw [List.length_map,hys,hlen,hc]) fun i d hd => ?_) hl R hro
   rw [List.getElem?_map] at hd
   obtain ⟨y,hy,rfl⟩:=Option.map_eq_some_iff.1 hd
   refine ⟨y.2,?_⟩
   rw [hget i (by have:=(List.getElem?_eq_some_iff.1 hy).1; omega),hy]
  ·cases hl
variable {H : Type} {enc : TypeId × Value → H} {P : Program} {w : World} {base : Nat}
def valT (P : Program) (t : TypeId) (xs : List Value) : Option Value:=(aggT P t).bind fun ag => cond ag (some (.agg xs.toArray)) (match xs with | [x] => some x | _ => none)
def layArgs (P : Program) (N : Nat) : List TypeId → List (DataW H) → AH → Option (List Value × AH)
 | [],[],h => some ([],h)
 | t :: ts,d :: ds,h => (layD P N t d h).bind fun p => (valT P t p.1).bind fun v => (layArgs P N ts ds p.2).bind fun q => some (v :: q.1,q.2)
 | _,_,_ => none
theorem cell_not_agg {r : Reach} {b : Nat} {t : TypeId} {d : TypeDesc} (hd : P.underlying t = some d) {cs : Array Value} (h : Cell.okWide P w r b t (.agg cs)) : False:=by
 unfold Cell.okWide at h
 rw [hd] at h
 split at h
 all_goals first
  | (rename_i e; cases e; done)
  | (rename_i e _; cases e; done)
  | skip
 unfold Cell.ok at h
 rw [hd] at h
 split at h
 all_goals first
  | (rename_i e; cases e; done)
  | (rename_i e _; cases e; done)
  | exact h
theorem valT_sound {ι : Inj} {r : Reach} {b : Nat} {t : TypeId} {v x : Value} {xs : List Value} (hok : Value.okWide P w r b t v) (hc : AllR (cRel ι) xs v.cells.toList) (hx : valT P t xs = some x) : vRel ι x v:=by
 unfold valT at hx
 obtain ⟨ag,hag,hx⟩:=Option.bind_eq_some_iff.1 hx
 unfold aggT at hag
 obtain ⟨d,hd,hag⟩:=Option.map_eq_some_iff.1 hag
 unfold Value.okWide at hok
 rw [hd] at hok
 cases ag with
 | true =>
  injection hx with hx
  subst hx
  have : ∃ cs,v = .agg cs:=by
   cases d <;> first | (cases hag; done) | exact hok.imp fun _ h => h.1
  obtain ⟨cs,rfl⟩:=this
  exact .one (.agg _ _ hc)
 | false =>
  have hok' : Cell.okWide P w r b t v:=by
   cases d <;> first | (cases hag; done) | exact hok
  have hv : v.cells = #[v]:=by
   cases v with
   | agg cs => exact (cell_not_agg hd hok').elim
   | _ => rfl
  rw [hv] at hc
  match xs,hx,hc with
  | [y],hx,hc =>
   injection hx with hx
   subst hx
   exact hc.1.v
theorem layArgs_sound {N : Nat} {r : Reach} {b : Nat} : ∀ (ts : List TypeId) (vs : List Value) (ds : List (DataW H)) (ps : List MemPlace) {ι : Inj} {h h' : AH} {avs : List Value},DataW.TrodAll enc P w 0 (fun _ => true) true ts vs ds ps →
  (∀ (j : Nat) t v,ts[j]? = some t → vs[j]? = some v → Value.okWide P w r b t v) → layArgs P N ts ds h = some (avs,h') → Rel ι base h w → RoAll h →
  ∃ ι' : Inj,Rel ι' base h' w ∧ RoAll h' ∧ (∀ β,β < h.next → ι' β = ι β) ∧ h.next ≤ h'.next ∧ AllR (vRel ι') avs vs
 | [],vs,ds,ps,ι,h,h',avs,hA,_,hl,R,hro => by
  cases vs with
  | cons _ _ => exact hA.elim
  | nil =>
   cases ds with
   | cons _ _ => exact hA.elim
   | nil =>
    obtain ⟨rfl,rfl⟩:=Prod.mk.inj (Option.some.inj hl)
    exact ⟨ι,R,hro,fun _ _ => rfl,Nat.le_refl _,trivial⟩
 | t :: ts,vs,ds,ps,ι,h,h',avs,hA,hok,hl,R,hro => by
  cases vs with
  | nil => exact hA.elim
  | cons v vs =>
   cases ds with
   | nil => exact hA.elim
   | cons d ds =>
    obtain ⟨p,q,⟨m,hp⟩,hA,_⟩:=hA
    obtain ⟨⟨xs,h1⟩,hx,hl⟩:=Option.bind_eq_some_iff.1 hl
    obtain ⟨x,hv,hl⟩:=Option.bind_eq_some_iff.1 hl
    obtain ⟨⟨ys,h2⟩,hy,hl⟩:=Option.bind_eq_some_iff.1 hl
    obtain ⟨rfl,rfl⟩:=Prod.mk.inj (Option.some.inj hl)
    obtain ⟨ι1,R1,ro1,a1,n1,c1⟩:=layD_sound N m t _ d p ι h xs h1 hp hx R hro
    obtain ⟨ι2,R2,ro2,a2,n2,c2⟩:=layArgs_sound ts vs ds q hA (fun j t v ht hv => hok (j + 1) t v ht hv) hy R1 ro1
    have hs : Sub ι1 ι2:=fun β k e => (a2 β (R1.dom β k e).1).trans e
    exact ⟨ι2,R2,ro2,fun β hb => (a2 β (Nat.lt_of_lt_of_le hb n1)).trans (a1 β hb),Nat.le_trans n1 n2,(valT_sound (hok 0 t v rfl rfl) c1 hv).mono hs,c2⟩
def hNil : AH:={ blks:=.nil,grps:=.nil,next:=0,low:=0 }
def layVars (P : Program) (N : Nat) : List (String × DataW Unit) → AH → Option AH
 | [],h => some h
 | x :: r,h => cond (decide (P.globalNamed x.1 = some h.next)) (((P.globals[h.next]?).map (·.type)).bind fun t => (layD P N t x.2 h).bind fun p => cond (Nat.beq p.2.next h.next) (layVars P N r (p.2.newRo p.1 0)) none) none
theorem rel_nil (hb : base ≤ w.heap.size) : Rel (fun _ => none) base hNil w ∧ RoAll hNil:=by
 have hg : ∀ β b,hNil.blks.get β ≠ some b:=fun β b e => by
  have : hNil.blks.get β = none:=Tr.get_nil β
  rw [this] at e
  cases e
 exact ⟨⟨fun _ _ _ _ hk => (by cases hk),fun _ _ _ _ hk => (by cases hk),fun _ _ _ _ hk => (by cases hk),fun β b hb => absurd hb (hg β b),fun _ _ _ _ _ _ _ _ hk => (by cases hk),fun _ _ hk => (by cases hk),
  fun β _ => ⟨Tr.get_nil β,Tr.get_nil β⟩,fun β b hb => absurd hb (hg β b),hb,fun _ _ hk => (by cases hk),fun β b _ hb => absurd hb (hg β b)⟩,fun β b hb => absurd hb (hg β b)⟩
theorem layVars_sound {N : Nat} : ∀ (l : List (String × DataW Unit)) (ps : List MemPlace) {ι : Inj} {h h' : AH},DataW.LaidVars P w l ps → layVars P N l h = some h' → Rel ι base h w → RoAll h → GOK h.next ι →
  ∃ ι' : Inj,Rel ι' base h' w ∧ RoAll h' ∧ GOK h'.next ι' ∧ h'.next = h.next + l.length
 | [],ps,ι,h,h',_,hl,R,hro,hg => by
  injection hl with hl
  subst hl
  exact ⟨ι,R,hro,hg,rfl⟩
 | x :: l,ps,ι,h,h',hL,hl,R,hro,hg => by
  obtain ⟨g,t,cs,fuel,p,q,h1,h2,h3,h4,h5,_⟩:=hL
  obtain ⟨hc,hl⟩:=cond_some' hl
  have hc:=of_decide_eq_true hc
  have h1 : P.globalNamed x.1 = some g:=h1
  rw [h1] at hc
  injection hc with hc
  subst hc
  obtain ⟨t',ht',hl⟩:=Option.bind_eq_some_iff.1 hl
  rw [h2] at ht'
  injection ht' with ht'
  subst ht'
  obtain ⟨⟨xs,h1'⟩,hx,hl⟩:=Option.bind_eq_some_iff.1 hl
  obtain ⟨hn,hl⟩:=cond_some' hl
  have hn : h1'.next = h.next:=Nat.eq_of_beq_eq_true hn
  obtain ⟨ι1,R1,ro1,a1,n1,c1⟩:=layD_sound (held:=false) N fuel t _ x.2 p ι h xs h1' h4 hx R hro
  have hh : ∃ el fz,w.heap[h.next]? = some (.cells cs el fz):=by
   unfold World.var? at h3
   rw [h1] at h3
   simp only [Option.bind_some] at h3
   split at h3
   ·rename_i cs' el fz hh
    injection h3 with h3
    subst h3
    exact ⟨el,fz,hh⟩
   ·cases h3
  obtain ⟨el,fz,hh⟩:=hh
  have hcl : xs.length = cs.size:=c1.length_eq.trans Array.length_toList
  obtain ⟨ι2,k2,R2,ro2,a2⟩:=R1.newRo ro1 (cells:=xs) (z:=0) (k:=⟨h.next,0,0,cs.size⟩) hh rfl rfl (by
   show AllR _ xs (List.take xs.length (List.drop 0 cs.toList))
   rw [List.drop_zero,hcl,show cs.size = cs.toList.length from Array.length_toList.symm,List.take_length]
   exact c1)
  have hgok : GOK (h1'.newRo xs 0).next ι2:=fun g hgl => by
   have hgl : g < h1'.next + 1:=hgl
   by_cases e : g = h1'.next
   ·subst e
    exact ⟨_,k2,hn.symm,rfl⟩
   ·obtain ⟨k,g1,g2⟩:=hg g (by omega)
    exact ⟨k,(a2 g (by omega)).trans ((a1 g (by omega)).trans g1),g2⟩
  obtain ⟨ι3,R3,ro3,g3,n3⟩:=layVars_sound l q h5 hl R2 ro2 hgok
  refine ⟨ι3,R3,ro3,g3,?_⟩
  rw [n3]
  show h1'.next + 1 + l.length = h.next + (l.length + 1)
  omega
structure Static (P : Program) (G : Nat) : Prop where
 orders : P.follows .mixedOrders = true
 names : namesOK P = true
 prog : progOK P G drawB = true
 laid : laidOutB P = true
structure Stays (w w' : World) : Prop where
 os : w'.os = w.os
 output : w'.output = w.output
 size : w.heap.size ≤ w'.heap.size
 block : ∀ k,k < w.heap.size → w'.heap[k]? = w.heap[k]?
theorem Stays.frame {w w' : World} (h : Stays w w') (may : MemPlace → Prop) : w.keptBut w' may:=by
 refine ⟨h.os,h.output,fun i hi => ?_⟩
 rw [h.block i hi]
 split <;> simp_all
open Go.RowKit in
theorem Stays.trod {t : TypeId} (hl : laidOutB P = true) (hr : P.readableRec t = true) (hrow : t < P.types.size) {W W' : World} {v : Value} {d : DataW H} {ps : List MemPlace}
  (h : DataW.Trod enc P W 0 (fun _ => true) true t v d ps) (hb : Stays W W') : DataW.Trod enc P W' 0 (fun b => decide (b < W.heap.size)) true t v d ps:=by
 have hlt : ∀ x ∈ ps,x.block < W.heap.size:=by
  obtain ⟨n,hn⟩:=h
  exact DataW.trod_lt n t _ _ hn
 have hB : Below W.heap.size W { W' with tape:=W.tape }:=⟨hb.os,rfl,hb.output,hb.size,hb.block⟩
 obtain ⟨n,hn⟩:=Below.trod hl hr hrow h hB hlt
 exact ⟨n,by rw [← hn]; exact DataW.trod_heap (w:=W') (w':={ W' with tape:=W.tape }) rfl n t _⟩
theorem Stays.trodAll (hl : laidOutB P = true) {W W' : World} (hb : Stays W W') : ∀ (ts : List TypeId) (vs : List Value) (ds : List (DataW H)) (ps : List MemPlace),(ts.all fun t => P.readableRec t && decide (t < P.types.size)) = true →
  DataW.TrodAll enc P W 0 (fun _ => true) true ts vs ds ps → DataW.TrodAll enc P W' 0 (fun b => decide (b < W.heap.size)) true ts vs ds ps
 | [],vs,ds,ps,_,h => by
  cases vs with
  | cons _ _ => exact h.elim
  | nil =>
   cases ds with
   | cons _ _ => exact h.elim
   | nil => exact h
 | t :: ts,vs,ds,ps,ht,h => by
  cases vs with
  | nil => exact h.elim
  | cons v vs =>
   cases ds with
   | nil => exact h.elim
   | cons d ds =>
    rw [List.all_cons,Bool.and_eq_true,Bool.and_eq_true] at ht
    obtain ⟨p,q,h1,h2,e⟩:=h
    exact ⟨p,q,h1.elim fun n hn => Stays.trod hl ht.1.1 (of_decide_eq_true ht.1.2) ⟨n,hn⟩ hb,Stays.trodAll hl hb ts vs ds q ht.2 h2,e⟩
theorem law_callsC {G N : Nat} {cf : FuncId → List Value → AH → Option (Value × AH)} {f : FuncId} {ts : List TypeId} {args : Array Value} {ds : List (DataW H)} {ps qs : List MemPlace} {vars : List (String × DataW Unit)} {b : Nat}
  (hL : DataW.LaidVars P w vars qs) (hA : DataW.TrodAll enc P w 0 (fun _ => true) true ts args.toList ds ps) (hok : ∀ (j : Nat) t v,ts[j]? = some t → args[j]? = some v → Value.okWide P w .any b t v)
  {h0 h1 h2 : AH} {avs : List Value} (hcf : RoAll h0 → WF h0 → h0.next = G → CallsOK P G cf) (hv : layVars P N vars hNil = some h0) (hG : G = vars.length) (ha : layArgs P N ts ds h0 = some (avs,h1)) {v : Value} (hr : cf f avs h1 = some (v,h2)) :
  Calls P f args w fun e w' => ∃ vc ι',e = .returned vc ∧ vRel ι' v vc ∧ Stays w w':=by
 obtain ⟨R0,ro0⟩:=rel_nil (w:=w) (base:=w.heap.size) (Nat.le_refl _)
 obtain ⟨ι1,R1,ro1,g1,n1⟩:=layVars_sound vars qs hL hv R0 ro0 (fun g hg => absurd hg (Nat.not_lt_zero _))
 obtain ⟨ι2,R2,ro2,a2,n2,c2⟩:=layArgs_sound ts _ ds ps hA (fun j t v ht hv => hok j t v ht (by rw [← hv,Array.getElem?_toList])) ha R1 ro1
 have n1' : h0.next = G:=by
  rw [n1,hG]
  exact Nat.zero_add _
 have g2 : GOK G ι2:=fun g hg => by
  obtain ⟨k,e1,e2⟩:=g1 g (by omega)
  exact ⟨k,(a2 g (by omega)).trans e1,e2⟩
 refine (hcf ro1 ⟨R1.gle,R1.new⟩ n1' f avs h1 v h2 hr ι2 w.heap.size w args R2 g2 c2).mono ?_
 rintro e w' ⟨vc,ι',rfl,g3,_,_,k,_⟩
 exact ⟨vc,ι',rfl,g3,k.2.2.1,k.2.2.2,k.1,fun b hb => k.2.1 b hb (.inl hb)⟩
variable {H : Type} {enc : TypeId × Value → H} {P : Program} {w : World} {base : Nat} {held : Bool}
def AllT (R : TypeId → DataW H → Prop) : List TypeId → List (DataW H) → Prop
 | [],ds => ds = []
 | t :: ts,ds => ∃ d r,ds = d :: r ∧ R t d ∧ AllT R ts r
def typD (P : Program) : Nat → TypeId → DataW H → Prop
 | 0,_,_ => True
 | N + 1,t,d => match P.underlying t with
  | some .bool => ∃ b,d = .lit (.bool b)
  | some (.int k) => ∃ n,d = .lit (.int k n) ∧ (Lit.int k n).wf = true
  | some .string => ∃ s,d = .lit (.string s) ∧ s.length ≤ maxLen
  | some (.slice e) => d = .nil ∨ ∃ xs ys,d = .slice xs ys ∧ xs.length + ys.length ≤ maxLen ∧ (∀ x ∈ xs,typD P N e x) ∧ ∀ y ∈ ys,typD P N e y
  | some (.pointer e) => d = .nil ∨ ∃ x,d = .ptr x ∧ typD P N e x
  | some (.struct fs) => ∃ xs,d = .agg xs ∧ AllT (typD P N) (fs.toList.map fun f => f.type) xs
  | some (.array n e) => ∃ xs,d = .agg xs ∧ xs.length = n ∧ ∀ x ∈ xs,typD P N e x
  | _ => True
theorem allT_of {R : TypeId → DataW H → Prop} : ∀ (ts : List TypeId) (ds : List (DataW H)),ds.length = ts.length → (∀ (i : Nat) (t : TypeId) (d : DataW H),ts[i]? = some t → ds[i]? = some d → R t d) → AllT R ts ds
 | [],ds,hl,_ => List.eq_nil_of_length_eq_zero hl
 | t :: ts,[],hl,_ => by cases hl
 | t :: ts,d :: ds,hl,hr => ⟨d,ds,rfl,hr 0 t d rfl rfl,allT_of ts ds (Nat.succ.inj hl) fun i t d ht hd => hr (i + 1) t d ht hd⟩
theorem typD_of : ∀ (N m : Nat) (t : TypeId) (cs : List Value) (d : DataW H) (ps : List MemPlace),DataW.trod enc P w 0 (fun _ => true) held m t cs = some (d,ps) → typD P N t d:=by
 intro N
 induction N with
 | zero => exact fun _ _ _ _ _ _ => trivial
 | succ N ih =>
  intro m t cs d ps hp
  unfold typD
  split
  ·rename_i hu
   obtain ⟨b,rfl,e⟩:=DataW.trod_bool hu hp
   injection e with e1 _
   exact ⟨b,e1⟩
  ·rename_i k hu
   obtain ⟨n,rfl,e,hw⟩:=DataW.trod_int hu hp
   injection e with e1 _
   exact ⟨n,e1,hw⟩
  ·rename_i hu
   obtain ⟨s,rfl,e,hs⟩:=DataW.trod_string hu hp
   injection e with e1 _
   exact ⟨_,e1,by rw [Array.length_toList]; exact hs⟩
  ·rename_i e0 hu
   rcases DataW.trod_slice hu hp with ⟨rfl,e⟩ | ⟨a,len,cap,el,rs,n,rfl,rfl,e,_,hlc,hcm,hel,h1,h2,_⟩
   ·injection e with e1 _
    exact .inl e1
   ·injection e with e1 _
    obtain ⟨hrl,h2⟩:=h2 rfl
    refine .inr ⟨_,_,e1,by rw [List.length_map,List.length_map]; omega,fun x hx => ?_,fun y hy => ?_⟩
    ·obtain ⟨i,hi⟩:=List.getElem?_of_mem hx
     rw [List.getElem?_map] at hi
     obtain ⟨z,hz,rfl⟩:=Option.map_eq_some_iff.1 hi
     obtain ⟨l,_,g2⟩:=Option.bind_eq_some_iff.1 ((h1 i (by have:=(List.getElem?_eq_some_iff.1 hz).1; omega)).trans hz)
     exact ih n _ _ _ z.2 g2
    ·obtain ⟨i,hi⟩:=List.getElem?_of_mem hy
     rw [List.getElem?_map] at hi
     obtain ⟨z,hz,rfl⟩:=Option.map_eq_some_iff.1 hi
     obtain ⟨l,_,g2⟩:=Option.bind_eq_some_iff.1 ((h2 i (by have:=(List.getElem?_eq_some_iff.1 hz).1; omega)).trans hz)
     exact ih n _ _ _ z.2 g2
  ·rename_i e0 hu
   rcases DataW.trod_pointer hu hp with ⟨_,e1⟩ | ⟨a,cs',y,n,rfl,rfl,e1,hc,hy⟩
   ·injection e1 with e1 _
    exact .inl e1
   ·injection e1 with e1 _
    exact .inr ⟨_,e1,ih n _ _ _ y.2 hy⟩
  ·rename_i fs hu
   obtain ⟨ys,n,rfl,e,hlen,hys,hget⟩:=DataW.trod_struct hu hp
   injection e with e1 _
   refine ⟨_,e1,allT_of _ _ (by rw [List.length_map,List.length_map,hys]; exact Array.length_toList.symm) fun i t x ht hx => ?_⟩
   rw [List.getElem?_map] at ht hx
   obtain ⟨f,hf,rfl⟩:=Option.map_eq_some_iff.1 ht
   obtain ⟨z,hz,rfl⟩:=Option.map_eq_some_iff.1 hx
   rw [Array.getElem?_toList] at hf
   exact ih n _ _ _ z.2 ((hget i f hf).trans hz)
  ·rename_i k e0 hu
   obtain ⟨ys,n,rfl,e1,hlen,hys,hget⟩:=DataW.trod_array hu hp
   injection e1 with e1 _
   refine ⟨_,e1,by rw [List.length_map]; exact hys,fun x hx => ?_⟩
   obtain ⟨i,hi⟩:=List.getElem?_of_mem hx
   rw [List.getElem?_map] at hi
   obtain ⟨z,hz,rfl⟩:=Option.map_eq_some_iff.1 hi
   exact ih n _ _ _ z.2 ((hget i (by have:=(List.getElem?_eq_some_iff.1 hz).1; omega)).trans hz)
  ·trivial
theorem typArgs {N : Nat} : ∀ (ts : List TypeId) (vs : List Value) (ds : List (DataW H)) (ps : List MemPlace),DataW.TrodAll enc P w 0 (fun _ => true) true ts vs ds ps → AllT (typD P N) ts ds
 | [],vs,ds,ps,h => by
  cases vs with
  | cons _ _ => exact h.elim
  | nil =>
   cases ds with
   | cons _ _ => exact h.elim
   | nil => rfl
 | t :: ts,vs,ds,ps,h => by
  cases vs with
  | nil => exact h.elim
  | cons v vs =>
   cases ds with
   | nil => exact h.elim
   | cons d ds =>
    obtain ⟨p,q,⟨m,h1⟩,h2,_⟩:=h
    exact ⟨d,ds,rfl,typD_of N m t _ d p h1,typArgs ts vs ds q h2⟩
theorem contract_trueC {C : Checked} {cf : FuncId → List Value → AH → Option (Value × AH)} {f : FuncId} {fn : Func} {s : ChangeSpec} {apart fresh handsOn : Bool} {G N : Nat} (S : Static C.prog G) {vars : List (String × DataW Unit)} (hG : G = vars.length)
  {h0 : AH} (hcf : RoAll h0 → WF h0 → h0.next = G → CallsOK C.prog G cf) (hv : layVars C.prog N vars hNil = some h0) {tb : TypeId} (hrt : fn.resultTypes = #[tb]) (htb : C.prog.underlying tb = some .bool) (hts : (fn.params.toList.all fun t => C.prog.readableRec t && decide (t < C.prog.types.size)) = true)
  (hsv : s.vars = []) (hfn : ∀ ds : List (DataW H),ds.length = fn.params.size → s.fn H ds = { results:=[.lit (.bool true)],args:=ds })
  (pure : ∀ ds : List (DataW H),AllT (typD C.prog N) fn.params.toList ds → ∃ avs h1 h2,layArgs C.prog N fn.params.toList ds h0 = some (avs,h1) ∧ cf f avs h1 = some (.bool true,h2)) 
  (W : World) (b : Nat) (args : Array Value) (ds gs : List (DataW H)) (before : List MemPlace) (hval : ∀ (j : Nat) t v,fn.params[j]? = some t → args[j]? = some v → Value.okWide C.prog W .any b t v)
  (hW : DataW.Whole enc C.prog fn.params.toList s.vars apart W args.toList ds gs before) {qs : List MemPlace} (hL : DataW.LaidVars C.prog W vars qs) :
  Calls C.prog f args W fun e W' => ∃ v,e = .returned v ∧ s.post enc C.prog fn apart fresh handsOn false W args v W':=by
 have hW':=hW
 obtain ⟨p,q,hA,hV,rfl,hfz,hnd⟩:=hW
 rw [hsv] at hV
 have hgq : gs = [] ∧ q = []:=by
  cases gs with
  | nil => exact ⟨rfl,hV⟩
  | cons g r => exact absurd hV (by intro h; cases h)
 obtain ⟨rfl,rfl⟩:=hgq
 obtain ⟨avs,h1,h2,ha,hr⟩:=pure ds (typArgs _ _ _ _ hA)
 have hlen : ds.length = fn.params.size:=by
  have key : ∀ (ts : List TypeId) (vs : List Value) (ds : List (DataW H)) (ps : List MemPlace),DataW.TrodAll enc C.prog W 0 (fun _ => true) true ts vs ds ps → ds.length = ts.length:=by
   intro ts
   induction ts with
   | nil =>
    intro vs ds ps h
    cases vs with
    | cons _ _ => exact h.elim
    | nil =>
     cases ds with
     | cons _ _ => exact h.elim
     | nil => rfl
   | cons t ts ih =>
    intro vs ds ps h
    cases vs with
    | nil => exact h.elim
    | cons v vs =>
     cases ds with
     | nil => exact h.elim
     | cons d ds =>
      obtain ⟨p,q,_,h2,_⟩:=h
      exact congrArg Nat.succ (ih vs ds q h2)
  exact (key _ _ _ _ hA).trans Array.length_toList
 refine (law_callsC hL hA (fun j t v ht hv => hval j t v (by rw [← Array.getElem?_toList]; exact ht) hv) hcf hv hG ha hr).mono ?_
 rintro e W' ⟨vc,ι',rfl,hvr,hst⟩
 obtain rfl:=hvr.bool_inv
 have hf:=hfn ds hlen
 refine ⟨_,rfl,ds,[],p ++ [],[],p,[],hW',?_,?_,?_,hst.frame _,fun h => by cases h⟩
 ·rw [List.append_nil,hf,hrt]
  exact ⟨[],[],⟨1,by unfold DataW.trod; rw [htb]; rfl⟩,rfl,rfl⟩
 ·rw [List.append_nil,hf]
  exact Stays.trodAll S.laid hst _ _ _ _ hts hA
 ·rw [List.append_nil,hf,hsv]
  rfl
open Go Go.Proofs
variable {P : Program} {G : Nat}
def OldAs (h0 h : AH) : Prop:=∀ β,β < h0.next → h.blks.get β = h0.blks.get β ∧ h.grps.get β = h0.grps.get β
 noncomputable def withA (cf : FuncId → List Value → AH → Option (Value × AH)) (fa : FuncId) (h0 : AH) : FuncId → List Value → AH → Option (Value × AH) :=
  fun f args h => open Classical in if f = fa ∧ args = [] ∧ OldAs h0 h then some (.bool true,h) else cf f args h
theorem withA_yes {cf : FuncId → List Value → AH → Option (Value × AH)} {fa : FuncId} {h0 h : AH} (ho : OldAs h0 h) : withA cf fa h0 fa [] h = some (.bool true,h):=if_pos ⟨rfl,rfl,ho⟩
theorem withA_no {cf : FuncId → List Value → AH → Option (Value × AH)} {fa f : FuncId} {h0 h : AH} {args : List Value} (hf : f ≠ fa) : withA cf fa h0 f args h = cf f args h:=if_neg fun h => hf h.1
theorem withA_body {cf : FuncId → List Value → AH → Option (Value × AH)} {fa : FuncId} {h0 : AH} (hb : HasBody P cf) (hfa : ∃ fn,P.funcs[fa]? = some fn ∧ fn.body.isSome = true) : HasBody P (withA cf fa h0):=by
 intro f args h r hr
 unfold withA at hr
 split at hr
 ·rename_i e
  rw [e.1]
  exact hfa
 ·exact hb f args h r hr
theorem withA_mild {cf : FuncId → List Value → AH → Option (Value × AH)} {fa : FuncId} {h0 : AH} (hb : CallsMild cf) : CallsMild (withA cf fa h0):=by
 intro f args h v h' H hr
 unfold withA at hr
 split at hr
 ·injection hr with hr
  injection hr with _ hr
  subst hr
  exact .refl H
 ·exact hb f args h v h' H hr
theorem Rel.grown {ι : Inj} {base : Nat} {h : AH} {w w' : World} (R : Rel ι base h w) (hs : w.heap.size ≤ w'.heap.size) (hk : ∀ b,b < w.heap.size → w'.heap[b]? = w.heap[b]?) : Rel ι base h w' :=
 ⟨fun β b k hr hi => by
  obtain ⟨cs,el,fz,h1,h2⟩:=R.blk β b k hr hi
  exact ⟨cs,el,fz,(hk _ (R.dom β k hi).2).trans h1,h2⟩,R.esz,R.own,R.gle,R.dis,fun β k hi => ⟨(R.dom β k hi).1,Nat.lt_of_lt_of_le (R.dom β k hi).2 hs⟩,R.new,R.grp,Nat.le_trans R.bas hs,R.has,fun β b k hb hi hg => by
  obtain ⟨h1,es,h2,h3⟩:=R.map β b k hb hi hg
  exact ⟨h1,es,(hk _ (R.dom β k hi).2).trans h2,h3⟩⟩
theorem cRel.plain {ι ι' : Inj} {v vc : Value} (hp : plainC v = true) (h : cRel ι v vc) : cRel ι' v vc:=by
 cases h with
 | atom h => cases h with
  | bool b => exact .atom (.bool b)
  | int k n => exact .atom (.int k n)
  | string s => exact .atom (.string s)
  | pnil => exact .atom .pnil
  | snil => exact .atom .snil
  | fnil => exact .atom .fnil
  | inil => exact .atom .inil
  | mnil => exact .atom .mnil
  | ptr a c h => simp [plainC] at hp
  | slice a c n c1 c2 h => simp [plainC] at hp
  | map β n k h e => simp [plainC] at hp
 | func fn f f' c c' hf hc => simp [plainC] at hp
theorem allR_plain {ι ι' : Inj} : ∀ {l l' : List Value},(l.all plainC) = true → AllR (cRel ι) l l' → AllR (cRel ι') l l'
 | [],[],_,_ => trivial
 | x :: l,y :: l',hp,h => by
  rw [List.all_cons,Bool.and_eq_true] at hp
  exact ⟨h.1.plain hp.1,allR_plain hp.2 h.2⟩
 | [],_ :: _,_,h => h.elim
 | _ :: _,[],_,h => h.elim
theorem withA_ok {cf cg : FuncId → List Value → AH → Option (Value × AH)} {fa : FuncId} {h0 h0' : AH} (hcf : CallsOK P G cf) (hcg : CallsOK P G cg) (hro : RoAll h0) (hpl : ∀ β b,h0.blks.get β = some b → (b.cells.all plainC) = true) (hW : WF h0) (hG : h0.next = G) (hr : cg fa [] h0 = some (.bool true,h0')) : CallsOK P G (withA cf fa h0):=by
 intro f args h v h' hv ι base w argsc R hGOK ha
 unfold withA at hv
 split at hv
 ·rename_i e
  obtain ⟨e1,e2,ho⟩:=e
  subst e2
  injection hv with hv
  injection hv with hv1 hv2
  subst hv1
  subst hv2
  have hgl : ∀ β b,h0.blks.get β = some b → b.grp < h0.next:=fun β b hb => Nat.lt_of_le_of_lt (hW.gle β b hb) (hW.lt hb)
  have dm : ∀ β k,(if β < G then ι β else none) = some k → β < G ∧ ι β = some k:=fun β k hk => by
   by_cases hb : β < G
   ·rw [if_pos hb] at hk
    exact ⟨hb,hk⟩
   ·rw [if_neg hb] at hk
    cases hk
  have R0 : Rel (fun β => if β < G then ι β else none) w.heap.size h0 w:=by
   refine ⟨fun β b k hb hk => ?_,fun β b k hb hk => ?_,fun β b k hb hk he => ?_,hW.gle,fun β β' b b' k k' hb hb' _ _ _ he => ?_,fun β k hk => ?_,hW.new,hgl,Nat.le_refl _,fun β k hk => ?_,fun β b k hb hk hg => ?_⟩
   ·obtain ⟨h1,h2⟩:=dm β k hk
    have hg:=(rd_get hb).1
    have hr1 : h.rd β = some b:=by
     refine rd_of ((ho β (by omega)).1.trans hg) ?_
     have:=(rd_get hb).2
     unfold AH.members at this ⊢
     rw [(ho b.grp (hgl β b hg)).2]
     exact this
    obtain ⟨cs,el,fz,q1,q2,q3,l,q4,q5⟩:=R.blk β b k hr1 h2
    exact ⟨cs,el,fz,q1,q2,fun he => (by rw [hro β b hg] at he; cases he),l,q4,allR_plain (hpl β b hg) q5⟩
   ·obtain ⟨h1,h2⟩:=dm β k hk
    exact R.esz β b k ((ho β (by omega)).1.trans hb) h2
   ·rw [hro β b hb] at he
    cases he
   ·rcases he with he | he
    ·rw [hro β b hb] at he
     cases he
    ·rw [hro β' b' hb'] at he
     cases he
   ·obtain ⟨h1,h2⟩:=dm β k hk
    exact ⟨by omega,(R.dom β k h2).2⟩
   ·obtain ⟨h1,h2⟩:=dm β k hk
    obtain ⟨b,hb⟩:=R.has β k h2
    exact ⟨b,(ho β (by omega)).1.symm.trans hb⟩
   ·obtain ⟨h1,h2⟩:=dm β k hk
    have:=(R.map β b k ((ho β (by omega)).1.trans hb) h2 ((ho b.grp (hgl β b hb)).2.trans hg)).1.2
    rw [hro β b hb] at this
    cases this
  have G0 : GOK G (fun β => if β < G then ι β else none):=fun g hg => by
   obtain ⟨k,h1,h2⟩:=hGOK g hg
   exact ⟨k,(if_pos hg).trans h1,h2⟩
  rw [e1]
  refine (hcg fa [] h0 _ _ hr _ w.heap.size w argsc R0 G0 (by
   cases e : argsc.toList with
   | nil => trivial
   | cons x l =>
    rw [e] at ha
    exact ha.elim)).mono ?_
  rintro e w' ⟨vc,ι',rfl,q1,q2,q3,q4,q5⟩
  have hvc : vRel ι (.bool true) vc:=by
   have : vc = .bool true:=by
    cases q1 with
    | one q => cases q with
     | cell q => cases q with
      | atom q => cases q; rfl
   rw [this]
   exact plainV_rel rfl
  exact ⟨vc,ι,rfl,hvc,R.grown q4.1 (fun b hb => q4.2.1 b hb (.inl hb)),Ext.refl _ _ _,⟨q4.1,fun b hb _ => q4.2.1 b hb (.inl hb),q4.2.2⟩,Nat.le_refl _⟩
 ·exact hcf f args h v h' hv ι base w argsc R hGOK ha
end Go.Proofs.YtpadjdokjppopaaGreatDoor.X
