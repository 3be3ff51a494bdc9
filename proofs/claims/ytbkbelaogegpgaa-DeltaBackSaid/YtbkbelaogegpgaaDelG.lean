/- DeltaShifts: events that are all later by as much have the same bytes. -/
import Derived.Test.YtbkbelaogegpgaaDelF
import Derived.Test.YtbkbelaogegpgaaValN
namespace Go.Ab
open Go
set_option linter.unusedVariables false
set_option linter.unusedSimpArgs false
set_option maxRecDepth 10000

theorem known16_H : GF gtab fid_archipelagolaw16_known [] [] 0 = some (.bool true, []) := GF_run 300 (by kernel_rfl)

/-- Put and Read of a history's events. -/
theorem put_right {first : Int} {l : List Ev} (h : RightD first l) (ho : EvOk l) (hl : l.length ≤ 200) :
    ∃ bs, Packed bs (db first l) ∧ (∀ b ∈ bs, b < 256) ∧ bs.length ≤ 1000000 ∧ (∀ {w : U}, isVa w l → GF gtab fid_delta_Put [.int .i64 first, w] [] 0 = some (.tup [.own 1 (un .u8 bs), .int .i64 0], [])) := by
  obtain ⟨bs, hp⟩ : ∃ bs, Packed bs (db first l) := by
    rcases dput_R (w := .list false 4 (uvs l)) (l := l) (first := first) (.inl rfl) (by omega) ho with ⟨bs, _, a, _⟩ | ⟨a, _⟩
    · exact ⟨bs, a⟩
    · exact absurd h a
  have hle := dall_le l (ev0 first) false (h.chain ho)
  have hlen := hp.len
  have hlen2 : (db first l).length ≤ 400 * l.length := hle
  refine ⟨bs, hp, hp.lt, by omega, fun {w} hw => ?_⟩
  rcases dput_R (first := first) hw (by omega) ho with ⟨bs', _, a, b⟩ | ⟨a, _⟩
  · rw [PackedN.unique hp a]; exact b
  · exact absurd h a
theorem read_right {first : Int} {N : Nat} {l : List Ev} {bs : List Nat} (h : RightD first l) (hf : l ≠ [] → 0 ≤ first ∧ first ≤ 4611686018427387903) (hf2 : -9223372036854775808 ≤ first ∧ first ≤ 9223372036854775807) (ho : EvOk l) (hN : ∀ e ∈ l, e.2.2.1 < (N : Int)) (hN2 : N < 18446744073709551616) (hp : Packed bs (db first l)) (hb : ∀ b ∈ bs, b < 256) (hl : bs.length ≤ 1000000) (hll : l.length ≤ 200) :
    ∃ v, isVa v l ∧ GF gtab fid_delta_Read [.list false 1 (un .u8 bs), .int .i64 first, .int .i64 ((l.length : Nat) : Int), .int .u64 (N : Int)] [] 0 = some (.tup [v, .int .i64 0], []) := by
  have hD : DIs first ((l.length : Nat) : Int) N bs l := ⟨⟨by omega, fun h0 => hf (fun h1 => by rw [h1] at h0; simp at h0), rfl⟩, h, ho, hN, hp⟩
  obtain ⟨u, h1 | h1, h2⟩ := dread_R (first := first) (count := ((l.length : Nat) : Int)) (n := N) hb hl hf2 ⟨by omega, by omega⟩ hN2
  · obtain ⟨l', v, a, b, rfl⟩ := h1
    have := a.one hD
    subst this
    exact ⟨v, b, h2⟩
  · exact absurd ⟨l, hD⟩ h1.1
theorem read_no {first count : Int} {N : Nat} {l : List Ev} {bs : List Nat} (h : RightD first l) (hf2 : -9223372036854775808 ≤ first ∧ first ≤ 9223372036854775807) (hc : -9223372036854775808 ≤ count ∧ count ≤ 1000) (hne : count ≠ ((l.length : Nat) : Int)) (ho : EvOk l) (hN2 : N < 18446744073709551616) (hp : Packed bs (db first l)) (hb : ∀ b ∈ bs, b < 256) (hl : bs.length ≤ 1000000) :
    GF gtab fid_delta_Read [.list false 1 (un .u8 bs), .int .i64 first, .int .i64 count, .int .u64 (N : Int)] [] 0 = some (.tup [.nils, .int .i64 21], []) := by
  obtain ⟨u, h1 | h1, h2⟩ := dread_R (first := first) (count := count) (n := N) hb hl hf2 hc hN2
  · obtain ⟨l', v, a, b, rfl⟩ := h1
    have := chain_one l' l _ _ [] (a.2.1.chain a.2.2.1) (h.chain ho) a.2.2.2.2 hp
    subst this
    exact absurd a.1.2.2.symm hne
  · rw [h2, h1.2]

end Go.Ab
