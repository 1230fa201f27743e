/- Merged out of my text VQa. -/
import Derived.Test.YtjdggbanifineaaGreatKVT
namespace Go.VL
section
variable {α β:Type}
theorem drop_blocks {c:α→List β} {k:Nat} (hc:∀ x,(c x).length=k):∀ (l:List α) (i:Nat),(l.map c).flatten.drop (i * k)=((l.drop i).map c).flatten
 | l,0=>by simp
 | [],i+1=>by simp
 | x::l,i+1=>by
  have:=drop_blocks hc l i
  rw [List.map_cons,List.flatten_cons,List.drop_succ_cons,← this,Nat.add_mul,Nat.one_mul,Nat.add_comm,← List.drop_drop,List.drop_left' (hc x)]
theorem cut_block {c:α→List β} {k:Nat} (hc:∀ x,(c x).length=k) (l:List α) (rest:List β) (i:Nat) (hi:i < l.length):(((l.map c).flatten++rest).drop (i * k)).take k=c l[i]:=by
 have hfl:∀ l:List α,(l.map c).flatten.length=l.length * k:=fun l=>by
  induction l with
  | nil=>simp
  | cons x l ih=>simp only [List.map_cons,List.flatten_cons,List.length_append,hc,ih,List.length_cons,Nat.add_mul,Nat.one_mul];omega
 rw [List.drop_append_of_le_length (by rw [hfl];exact Nat.mul_le_mul_right _ (Nat.le_of_lt hi)),drop_blocks hc,List.drop_eq_getElem_cons hi,List.map_cons,List.flatten_cons,List.append_assoc,List.take_left' (hc _)]
end
end Go.VL
