/- What the texts on options lean on. -/
import Derived.Test.YtiklcnlehlpdaaaMath
import Derived.Test.YtiklcnlehlpdaaaPTljx5
