/- Instructions as bytes, there and back; plain. -/
import Derived.Test.YtiheggkkgbfndaaGreatDoorL10
import Derived.Test.YtiheggkkgbfndaaGreatDoorL12
namespace Go.Proofs.YtiheggkkgbfndaaGreatDoor
open Go Go.Lib
set_option linter.unusedVariables false
set_option linter.unusedSimpArgs false
theorem digit_mod (X w k:Nat) (h:k < w):(X % 256 ^ w) / 256 ^ k % 256=X / 256 ^ k % 256:=by
 have e:256 ^ w=256 ^ k * (256 * 256 ^ (w - k - 1)):=by
  rw [← Nat.mul_assoc,← Nat.pow_succ,← Nat.pow_add]
  congr 1
  omega
 rw [e,Nat.mod_mul_right_div_self,Nat.mod_mul_right_mod]
theorem le_digit:∀ (l:List Nat),(∀ b ∈ l,b < 256)→∀ (k:Nat) (h:k < l.length),leF l / 256 ^ k % 256=l[k]
 | [],_,k,h=>absurd h (by simp)
 | b :: r,hb,0,h=>by
  have:=hb b (by simp)
  simp [leF]
  omega
 | b :: r,hb,k + 1,h=>by
  have h1:=hb b (by simp)
  have h2:=le_digit r (fun x hx=>hb x (List.mem_cons_of_mem _ hx)) k (by simpa using h)
  rw [leF,Nat.pow_succ,Nat.mul_comm (256 ^ k) 256,← Nat.div_div_eq_div_mul,show (b + 256 * leF r) / 256=leF r by omega,h2]
  rfl
theorem le_digits (X:Nat):∀ (w:Nat),leF ((List.range w).map fun k=>X / 256 ^ k % 256)=X % 256 ^ w
 | 0=>by simp [leF,Nat.mod_one]
 | w + 1=>by
  rw [List.range_succ,List.map_append,List.map_cons,List.map_nil,leF_snoc,le_digits X w,List.length_map,List.length_range,Nat.pow_succ,Nat.mod_mul]
theorem value_mod (sh n:Nat) (h:n < 256 ^ widthF sh):u64F (valueF sh n) % 256 ^ widthF sh=n:=by
 unfold widthF at *
 unfold u64F valueF
 by_cases h1:sh=1
 ·subst h1
  simp at h ⊢
  split <;> omega
 ·by_cases h2:sh=2
  ·subst h2
   simp at h ⊢
   split <;> omega
  ·by_cases h3:sh=3
   ·subst h3
    simp at h ⊢
    split <;> omega
   ·by_cases h4:sh=4
    ·subst h4
     simp at h ⊢
     omega
    ·by_cases h5:sh=5
     ·subst h5
      simp at h ⊢
      omega
     ·by_cases h6:sh=6
      ·subst h6
       simp at h ⊢
       omega
      ·simp [h1,h2,h3,h4,h5,h6] at h ⊢
       omega
theorem mod_value (sh:Nat) (v:Int) (h7:sh < 7) (hf:fitsF sh v=true) (hv:i64ok v):valueF sh (u64F v % 256 ^ widthF sh)=v:=by
 unfold i64ok at hv
 unfold widthF u64F valueF
 unfold fitsF at hf
 match sh,h7 with
 | 0,_=>simp at hf ⊢;omega
 | 1,_=>simp at hf ⊢;split <;> omega
 | 2,_=>simp at hf ⊢;split <;> omega
 | 3,_=>simp at hf ⊢;split <;> omega
 | 4,_=>simp at hf ⊢;omega
 | 5,_=>simp at hf ⊢;omega
 | 6,_=>simp at hf ⊢;omega
theorem byteF_nat (v:Int) (k:Nat):(byteF v k).toNat=u64F v / 256 ^ k % 256:=by
 unfold byteF
 rw [UInt8.toNat_ofNat']
theorem enc_at {s:List Nat} (hs:∀ b ∈ s,b < 256) {p k:Nat} {o:AOp} (h:atF s p=some (o,k)):(encB o).map UInt8.toNat=(s.drop p).take k:=by
 unfold atF at h
 split at h
 ·rename_i hp
  simp only at h
  split at h
  ·rename_i hc
   split at h
   ·rename_i hw
    split at h
    ·rename_i hf
     injection h with h
     injection h with h1 h2
     subst h1 h2
     rw [List.drop_eq_getElem_cons hp,Nat.add_comm 1,List.take_succ_cons]
     have hg:s.getD p 0=s[p]:=by rw [List.getD_eq_getElem?_getD,List.getElem?_eq_getElem hp];rfl
     rw [hg] at hc hw hf ⊢
     have hpc:s[p] < 256:=hs _ (List.getElem_mem hp)
     unfold encB
     simp only [List.map_cons,List.map_map]
     congr 1
     ·rw [UInt8.toNat_ofNat'];omega
     ·obtain ⟨w,hwd⟩:∃ w,w=widthF (shapeF s[p]):=⟨_,rfl⟩
      obtain ⟨l,hl⟩:∃ l,l=(s.drop (p + 1)).take w:=⟨_,rfl⟩
      rw [← hwd] at hw ⊢
      rw [← hl]
      have hll:l.length=w:=by rw [hl,List.length_take,List.length_drop];omega
      have hlb:∀ b ∈ l,b < 256:=fun b hb=>hs b (List.mem_of_mem_drop (List.mem_of_mem_take (hl ▸ hb)))
      have hlt:=leF_lt l hlb
      rw [hll,hwd] at hlt
      have hvm:=value_mod (shapeF s[p]) (leF l) hlt
      rw [← hwd] at hvm
      apply List.ext_getElem
      ·simp [hll]
      ·intro k h1 h2
       have hk:k < w:=by simpa using h1
       rw [List.getElem_map,List.getElem_range]
       show (byteF _ k).toNat=l[k]
       rw [byteF_nat,← digit_mod _ w k hk,hvm]
       exact le_digit l hlb k (by omega)
    ·cases h
   ·cases h
  ·cases h
 ·cases h
theorem Dec.bytes {s:List Nat} (hs:∀ b ∈ s,b < 256) {L:List AOp} {p:Nat} (h:Dec s L p):(bytesOf L).map UInt8.toNat=s.take p:=by
 induction h with
 | nil=>rfl
 | snoc h1 h2 h3 ih =>
  rename_i L p o k
  have:=enc_at hs h3
  unfold bytesOf at ih ⊢
  rw [List.flatMap_append,List.flatMap_cons,List.flatMap_nil,List.append_nil,List.map_append,ih,this,List.take_add]
theorem at_enc (a b:List Nat) (o:AOp) (hc:o.code < 41) (hf:fitsF (shapeF o.code) o.operand=true) (hv:i64ok o.operand) :
  atF (a ++ ((encB o).map UInt8.toNat ++ b)) a.length=some (o,1 + widthF (shapeF o.code)):=by
 obtain ⟨c,v⟩:=o
 simp only at hc hf hv ⊢
 obtain ⟨w,hw⟩:∃ w,w=widthF (shapeF c):=⟨_,rfl⟩
 have he:(encB ⟨c,v⟩).map UInt8.toNat=c :: ((List.range w).map fun k=>u64F v / 256 ^ k % 256):=by
  unfold encB
  simp only [List.map_cons,List.map_map,← hw]
  congr 1
  rw [UInt8.toNat_ofNat'];omega
 obtain ⟨l,hl⟩:∃ l,l=(List.range w).map fun k=>u64F v / 256 ^ k % 256:=⟨_,rfl⟩
 have hll:l.length=w:=by rw [hl];simp
 rw [he,← hl,List.cons_append]
 unfold atF
 rw [if_pos (by simp)]
 have hget:(a ++ c :: (l ++ b)).getD a.length 0=c:=by simp
 have hdrop:(a ++ c :: (l ++ b)).drop (a.length + 1)=l ++ b:=by
  rw [List.drop_append,List.drop_of_length_le (by omega),List.nil_append,show a.length + 1 - a.length=1 by omega]
  rfl
 simp only [hget,hdrop,← hw]
 rw [if_pos hc,if_pos (by simp [hll];omega)]
 have hval:valueF (shapeF c) (leF ((l ++ b).take w))=v:=by
  rw [List.take_append_of_le_length (by omega),List.take_of_length_le (by omega),hl,le_digits,hw]
  exact mod_value _ v (by rcases shape_cases c hc with h | h | h | h | h | h | h <;> omega) hf hv
 rw [hval,if_pos hf]
def Enc (L:List AOp):Prop:=∀ o ∈ L,o.code < 41∧fitsF (shapeF o.code) o.operand=true∧i64ok o.operand
theorem dec_enc (L:List AOp) (hL:Enc L):∀ m,m ≤ L.length→Dec ((bytesOf L).map UInt8.toNat) (L.take m) (bytesOf (L.take m)).length
 | 0,_=>Dec.nil
 | m + 1,h=>by
  have h1:=dec_enc L hL m (by omega)
  obtain ⟨g1,g2,g3⟩:=hL L[m] (List.getElem_mem _)
  have hs:(bytesOf L).map UInt8.toNat=(bytesOf (L.take m)).map UInt8.toNat ++ ((encB L[m]).map UInt8.toNat ++ (bytesOf (L.drop (m + 1))).map UInt8.toNat):=by
   rw [← List.map_append,← List.map_append]
   congr 1
   have:L=L.take m ++ (L[m] :: L.drop (m + 1)):=by rw [← List.drop_eq_getElem_cons,List.take_append_drop]
   conv=>lhs;rw [this]
   unfold bytesOf
   rw [List.flatMap_append,List.flatMap_cons]
  have hat:=at_enc ((bytesOf (L.take m)).map UInt8.toNat) ((bytesOf (L.drop (m + 1))).map UInt8.toNat) L[m] g1 g2 g3
  rw [← hs,List.length_map] at hat
  have hlt:(bytesOf (L.take m)).length < ((bytesOf L).map UInt8.toNat).length:=(atF_bound hat).1
  have:=Dec.snoc h1 hlt hat
  rw [← List.take_succ_eq_append_getElem (by omega)] at this
  have e:(bytesOf (L.take m)).length + (1 + widthF (shapeF L[m].code))=(bytesOf (L.take (m + 1))).length:=by
   rw [bytesOf_take L m (by omega),List.length_append,encB_length]
  rwa [e] at this
theorem dec_all (L:List AOp) (hL:Enc L):Dec ((bytesOf L).map UInt8.toNat) L (bytesOf L).length:=by
 have:=dec_enc L hL L.length (Nat.le_refl _)
 rwa [List.take_length] at this
/-! ### the lines that Print writes -/
/-! ### words -/
end Go.Proofs.YtiheggkkgbfndaaGreatDoor
