/-
  Part of a machine over pure data and objects that is sound for the model: what it says of a Go function holds of every call of that function. Conditions: those in each theorem. It speaks of any program.
-/
import Derived.Test.YtjaignojekmfgaaBvValS
namespace Go.Bv
open Go.RowKit
section
variable {P : Program} {G : Gh} {w : World} {h : Hp} {nx : Nat}

theorem bin_sound {K : V → Prop} {op : BinOp} {x y : V} (hb : binA K op x y) {vx vy : Value} (hx : RepV G w h nx vx x) (hy : RepV G w h nx vy y) (t : TypeId) (ox oy : Operand) :
    ∃ v z, (do eqGuard op t ox oy vx vy; binOp op t vx vy : Sem Value).run P w = .ok v w ∧ RepV G w h nx v z ∧ K z := by
  unfold binA at hb
  split at hb
  · rename_i k a k' b
    cases hx with | d _ _ hd =>
    cases hd
    cases hy with | d _ _ hd =>
    cases hd
    have h1 : (eqGuard op t ox oy (.int k a) (.int k' b)).run P w = .ok () w := by
      unfold eqGuard; cases op <;> simp
    simp only [Sem.run_bind, h1, Result.andThen_ok]
    have fin : ∀ (d : D) (v : Value), RepD G.lim w v d → K (.d d) → (binOp op t (.int k a) (.int k' b)).run P w = .ok v w →
        ∃ v z, (binOp op t (.int k a) (.int k' b)).run P w = .ok v w ∧ RepV G w h nx v z ∧ K z := fun d v h1 h2 h3 => ⟨v, .d d, h3, .d _ _ h1, h2⟩
    cases op
    case shl =>
      simp only [shiftA] at hb
      exact fin _ _ (.int _ _) hb.2 (by have := hb.1; simp [binOp, Op.shift, show ¬ b < 0 by omega])
    case shr =>
      simp only [shiftA] at hb
      exact fin _ _ (.int _ _) hb.2 (by have := hb.1; simp [binOp, Op.shift, show ¬ b < 0 by omega])
    case quo => simp only [intA] at hb; obtain ⟨rfl, h2, h3⟩ := hb; exact fin _ _ (.int _ _) h3 (by simp [binOp, Op.intDiv, h2])
    case rem => simp only [intA] at hb; obtain ⟨rfl, h2, h3⟩ := hb; exact fin _ _ (.int _ _) h3 (by simp [binOp, Op.intDiv, h2])
    case eql => simp only [intA] at hb; obtain ⟨rfl, h3⟩ := hb; exact fin _ _ (.bool _) h3 (by simp [binOp, Op.intCmp])
    case neq => simp only [intA] at hb; obtain ⟨rfl, h3⟩ := hb; exact fin _ _ (.bool _) h3 (by simp [binOp, Op.intCmp])
    case lss => simp only [intA] at hb; obtain ⟨rfl, h3⟩ := hb; exact fin _ _ (.bool _) h3 (by simp [binOp, Op.intCmp])
    case leq => simp only [intA] at hb; obtain ⟨rfl, h3⟩ := hb; exact fin _ _ (.bool _) h3 (by simp [binOp, Op.intCmp])
    case gtr => simp only [intA] at hb; obtain ⟨rfl, h3⟩ := hb; exact fin _ _ (.bool _) h3 (by simp [binOp, Op.intCmp])
    case geq => simp only [intA] at hb; obtain ⟨rfl, h3⟩ := hb; exact fin _ _ (.bool _) h3 (by simp [binOp, Op.intCmp])
    case add => simp only [intA] at hb; obtain ⟨rfl, h3⟩ := hb; exact fin _ _ (.int _ _) h3 (by simp [binOp, Op.intArith])
    case sub => simp only [intA] at hb; obtain ⟨rfl, h3⟩ := hb; exact fin _ _ (.int _ _) h3 (by simp [binOp, Op.intArith])
    case mul => simp only [intA] at hb; obtain ⟨rfl, h3⟩ := hb; exact fin _ _ (.int _ _) h3 (by simp [binOp, Op.intArith])
    case and => simp only [intA] at hb; obtain ⟨rfl, h3⟩ := hb; exact fin _ _ (.int _ _) h3 (by simp [binOp, Op.intBits])
    case or => simp only [intA] at hb; obtain ⟨rfl, h3⟩ := hb; exact fin _ _ (.int _ _) h3 (by simp [binOp, Op.intBits])
    case xor => simp only [intA] at hb; obtain ⟨rfl, h3⟩ := hb; exact fin _ _ (.int _ _) h3 (by simp [binOp, Op.intBits])
    case andNot => simp only [intA] at hb; obtain ⟨rfl, h3⟩ := hb; exact fin _ _ (.int _ _) h3 (by simp [binOp, Op.intBits])
  · exact hb.elim

theorem un_sound {K : V → Prop} {op : UnOp} {x : V} (hb : unA K op x) {vx : Value} (hx : RepV G w h nx vx x) :
    ∃ v z, (Op.unary op vx).run P w = .ok v w ∧ RepV G w h nx v z ∧ K z := by
  unfold unA at hb
  split at hb
  · cases hx with | d _ _ hd =>
    cases hd
    split at hb
    · exact ⟨_, _, by simp [Op.unary], .d _ _ (.bool _), hb⟩
    · exact hb.elim
  · cases hx with | d _ _ hd =>
    cases hd
    split at hb
    · exact ⟨_, _, by simp only [Op.unary, Op.intArith, Sem.run_pure], .d _ _ (.int _ _), hb⟩
    · exact hb.elim
  · exact hb.elim

theorem conv_sound {K : V → Prop} {s t : TypeId} {x : V} (hb : convA K (P.underlying t) x) (hs : (P.underlying s).isSome = true) {vx : Value} (hx : RepV G w h nx vx x) :
    ∃ v z, (convert s t vx).run P w = .ok v w ∧ RepV G w h nx v z ∧ K z := by
  obtain ⟨u, hu⟩ := Option.isSome_iff_exists.1 hs
  unfold convA at hb
  split at hb
  · cases hx with | d _ _ hd =>
    cases hd
    split at hb
    · rename_i k hk
      refine ⟨_, _, ?_, .d _ _ (.int _ _), hb⟩
      simp only [convert, Sem.run_bind, run_underlying hu, run_underlying hk, Result.andThen_ok]
      simp [Conv.intToInt]
    · exact hb.elim
  · exact hb.elim

theorem fldOf_run {t : TypeId} {f o n : Nat} {a : Bool} (hf : fldOf P t f = some (o, a, n)) :
    ∃ fs g, P.underlying t = some (.struct fs) ∧ fs[f]? = some g ∧ g.offset = o ∧ tyOf P g.type = some (a, n) ∧ n ≠ 0 := by
  unfold fldOf at hf
  split at hf
  · rename_i fs hu
    split at hf
    · rename_i g hg
      split at hf
      · rename_i a' n' ht
        simp only [Option.some.injEq, Prod.mk.injEq] at hf
        obtain ⟨h1, h2, h3⟩ := hf
        subst h2; subst h3
        exact ⟨fs, g, hu, hg, h1, ht, by omega⟩
      · cases hf
    · cases hf
  · cases hf

theorem field_sound {K : V → Prop} {t : TypeId} {f : Nat} {x : V} (hb : fieldA K (fldOf P t f) x) {vx : Value} (hx : RepV G w h nx vx x) :
    ∃ v z, (Instr.field t vx f).run P w = .ok v w ∧ RepV G w h nx v z ∧ K z := by
  unfold fieldA at hb
  split at hb
  · split at hb
    · rename_i l o a n hf
      obtain ⟨fs, g, hu, hg, ho, ht, _⟩ := fldOf_run hf
      cases hx with | agg vs _ hlen hone hr =>
      obtain ⟨v, z, h1, _, _, h2, h3⟩ := part_sound (w := w) ht hb (Nat.le_of_eq hlen.symm) hone hr
      refine ⟨v, z, ?_, h2, h3⟩
      simp only [Instr.field, Sem.run_bind, run_underlying hu, Result.andThen_ok, hg, asAgg, Sem.run_pure, ho]
      exact h1
    · exact hb.elim
  · exact hb.elim

theorem faddr_sound {K : V → Prop} {t : TypeId} {f : Nat} {x : V} (hb : faddrA K (fldOf P t f) x) {vx : Value} (hx : RepV G w h nx vx x) :
    ∃ v z, (Instr.fieldAt t vx f).run P w = .ok v w ∧ RepV G w h nx v z ∧ K z := by
  have main : ∀ (b off o n : Nat) (a : Bool), fldOf P t f = some (o, a, n) → (Instr.fieldAt t (.pointer (some ⟨b, off, none⟩)) f).run P w = .ok (.pointer (some ⟨b, off + o, none⟩)) w := by
    intro b off o n a hf
    obtain ⟨fs, g, hu, hg, ho, ht, hn⟩ := fldOf_run hf
    have := (tyOf_run ht w).2
    simp only [Instr.fieldAt, Sem.run_bind, run_underlying hu, Result.andThen_ok, hg, Instr.sureAddr, Sem.run_pure, fieldPlace, this, if_neg hn, add_mk, ho]
  unfold faddrA at hb
  split at hb
  · split at hb
    · rename_i id off _ o a n hf
      cases hx with | ptr _ _ b hid hl =>
      exact ⟨_, _, main _ _ _ _ _ hf, .ptr _ _ _ hid hl, hb⟩
    · exact hb.elim
  · split at hb
    · rename_i l _ o a n hf
      cases hx with | ro b off _ vs hlen hone hc hr =>
      refine ⟨_, _, main _ _ _ _ _ hf, .ro b (off + o) (l.drop o) (vs.drop o) (by simp [hlen]) (fun c hc => hone c (List.mem_of_mem_drop hc)) ?_ ?_, hb⟩
      · intro j u hu
        rw [List.getElem?_drop] at hu
        have := hc _ _ hu
        rwa [← Nat.add_assoc] at this
      · intro j u c hu hcc
        rw [List.getElem?_drop] at hu hcc
        exact hr _ _ _ hu hcc
    · exact hb.elim
  · exact hb.elim

theorem elemOf_run {t : TypeId} {a : Bool} {n : Nat} (he : elemOf P t = some (a, n)) : ∃ e, P.underlying t = some (.slice e) ∧ tyOf P e = some (a, n) := by
  unfold elemOf at he
  split at he
  · exact ⟨_, by assumption, he⟩
  · cases he

theorem arrOf_run {t : TypeId} {m n : Nat} {a : Bool} (he : arrOf P t = some (m, a, n)) : ∃ e, P.underlying t = some (.array m e) ∧ tyOf P e = some (a, n) := by
  unfold arrOf at he
  split at he
  · rename_i m' e hu
    cases ht : tyOf P e with
    | none => simp [ht] at he
    | some p =>
      obtain ⟨a', n'⟩ := p
      simp [ht] at he
      obtain ⟨rfl, rfl, rfl⟩ := he
      exact ⟨e, hu, ht⟩
  · cases he

theorem iaddr_sound {K : V → Prop} {t : TypeId} {x i : V} (hb : iaddrA K (elemOf P t) (arrOf P t) x i) {vx vi : Value} (hx : RepV G w h nx vx x) (hi : RepV G w h nx vi i) :
    ∃ v z, (Instr.indexAt t vx vi).run P w = .ok v w ∧ RepV G w h nx v z ∧ K z := by
  unfold iaddrA at hb
  split at hb
  · rename_i q i
    cases hi with | d _ _ hd =>
    cases hd
    split at hb
    · rename_i a sz hel
      obtain ⟨e, hu, ht⟩ := elemOf_run hel
      split at hb
      · rename_i l hl
        obtain ⟨h0, d, hd, hk⟩ := hb
        obtain ⟨b, off, cap, rfl, hro⟩ := slice_at (h := h) (nx := nx) (els_rep hl hx) hd
        have hlt : i.toNat < l.length := (List.getElem?_eq_some_iff.1 hd).1
        refine ⟨_, _, ?_, hro, hk⟩
        have hs := (tyOf_run ht w).2
        simp only [Instr.indexAt, asIntOf, Sem.run_bind, Sem.run_pure, Result.andThen_ok, run_underlying hu]
        rw [if_pos ⟨h0, by omega⟩]
        simp only [Sem.run_bind, hs, Result.andThen_ok, Sem.run_pure, add_mk]
      · exact hb.elim
    · rename_i m a sz _ har
      obtain ⟨e, hu, ht⟩ := arrOf_run har
      have hs := (tyOf_run ht w).2
      have main : ∀ b off : Nat, 0 ≤ i → i < m → (Instr.indexAt t (.pointer (some ⟨b, off, none⟩)) (.int q i)).run P w = .ok (.pointer (some ⟨b, off + i.toNat * sz, none⟩)) w := by
        intro b off h0 h1
        simp only [Instr.indexAt, asIntOf, Sem.run_bind, Sem.run_pure, Result.andThen_ok, run_underlying hu, Instr.sureAddr]
        rw [if_pos ⟨h0, h1⟩]
        simp only [Sem.run_bind, hs, Result.andThen_ok, Sem.run_pure, add_mk]
      split at hb
      · obtain ⟨h0, h1, hk⟩ := hb
        cases hx with | ptr _ _ b hid hl =>
        exact ⟨_, _, main _ _ h0 h1, .ptr _ _ _ hid hl, hk⟩
      · rename_i l
        obtain ⟨h0, h1, hk⟩ := hb
        cases hx with | ro b off _ vs hlen hone hc hr =>
        refine ⟨_, _, main _ _ h0 h1, .ro b _ (l.drop (i.toNat * sz)) (vs.drop (i.toNat * sz)) (by simp [hlen]) (fun c hc => hone c (List.mem_of_mem_drop hc)) ?_ ?_, hk⟩
        · intro j u hu
          rw [List.getElem?_drop] at hu
          have := hc _ _ hu
          rwa [← Nat.add_assoc] at this
        · intro j u c hu hcc
          rw [List.getElem?_drop] at hu hcc
          exact hr _ _ _ hu hcc
      · exact hb.elim
    · exact hb.elim
  · exact hb.elim

theorem index_sound {K : V → Prop} {t : TypeId} {x i : V} (hb : indexA K (arrOf P t) x i) (hstr : arrOf P t = none → P.underlying t = some .string) {vx vi : Value} (hx : RepV G w h nx vx x) (hi : RepV G w h nx vi i) :
    ∃ v z, (Instr.index t vx vi).run P w = .ok v w ∧ RepV G w h nx v z ∧ K z := by
  unfold indexA at hb
  split at hb
  · rename_i l q i
    cases hi with | d _ _ hd =>
    cases hd
    split at hb
    · rename_i m a sz har
      obtain ⟨e, hu, ht⟩ := arrOf_run har
      obtain ⟨h0, h1, hp⟩ := hb
      have hs := (tyOf_run ht w).2
      cases hx with | agg vs _ hlen hone hr =>
      obtain ⟨v, z, h3, _, _, h4, h5⟩ := part_sound (w := w) ht hp (Nat.le_of_eq hlen.symm) hone hr
      refine ⟨v, z, ?_, h4, h5⟩
      simp only [Instr.index, asIntOf, Sem.run_bind, Sem.run_pure, Result.andThen_ok, run_underlying hu]
      rw [if_pos ⟨h0, h1⟩]
      simp only [Sem.run_bind, hs, Result.andThen_ok, h3]
    · exact hb.elim
  · rename_i s q i
    cases hi with | d _ _ hd =>
    cases hd
    split at hb
    · rename_i har
      obtain ⟨h0, c, hc, hk⟩ := hb
      cases hx with | d _ _ hd =>
      cases hd
      refine ⟨_, _, ?_, .d _ _ (.int _ _), hk⟩
      simp only [Instr.index, asIntOf, Sem.run_bind, Sem.run_pure, Result.andThen_ok, run_underlying (hstr har), if_pos h0, hc]
    · exact hb.elim
  · exact hb.elim

end
end Go.Bv
